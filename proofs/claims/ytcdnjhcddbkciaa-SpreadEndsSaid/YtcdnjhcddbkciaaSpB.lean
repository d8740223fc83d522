/- The walk of spread.Take. (Printed by wip/tools/sptake.py.) -/
import Derived.Test.YtcdnjhcddbkciaaSpA
namespace Go.Proofs.Ytcdnjhcddbkciaa
open Go.RowKit

theorem results_tmp4s {fn : Func} {t u v x : Tmp} (h : fn.results = #[.tmp t, .tmp u, .tmp v, .tmp x]) (tmps : Array Value) (P : Program) (w : World) :
    (results fn tmps).run P w = .ok (.tuple #[tmps.getD t undef, tmps.getD u undef, tmps.getD v undef, tmps.getD x undef]) w := by
  simp [results, h]
theorem rd_at4s (w : World) (a b c d : Value) (t : TypeId) (k : Nat) (hk : k = w.heap.size) : Rd (w.alloc (.cells #[a, b, c, d] t)) (some ⟨k, 0, none⟩) 1 4 [a, b, c, d] := hk ▸ Rd.block w #[a, b, c, d] t 1 rfl
theorem apart_s {w : World} {b b' : Nat} {e e' : TypeId} {s s' n n' : Nat} {v v' : Value} {xs xs' : List Value} (h : w.ownsRow b e s v n xs) (h' : w.ownsRow b' e' s' v' n' xs') (hne : e ≠ e') : v.ownBlock = none ∨ v.ownBlock ≠ v'.ownBlock := by
  rcases h.2 with ⟨rfl, _⟩ | ⟨g, cap, cur, rfl, _, hg, _⟩
  · exact .inl rfl
  · right
    rcases h'.2 with ⟨rfl, _⟩ | ⟨g', cap', cur', rfl, _, hg', _⟩
    · simp [Value.ownBlock]
    · intro e2
      simp only [Value.ownBlock, Option.some.injEq] at e2
      subst e2
      rw [hg] at hg'
      injection hg' with hg'
      injection hg' with _ ht
      exact hne ht

set_option maxRecDepth 100000 in
set_option maxHeartbeats 3200000 in
theorem take_bad (s : SV) (x : LV) (w : World) (hs : s.Ok w) (hx : x.Ok w) (hn : s.n ≤ 1000) (hm : x.n ≤ 1000) (hb : mayB x = false ∨ x.kind ≠ 3 ∨ 64 < x.a + x.n) :
    Calls Try.prog 54 #[s.val, x.val] w fun e w' => e = .returned (.tuple #[.slice none 0 0, .bool false, .int .i64 0, .int .i64 1]) ∧ Ext w w' := by
  obtain ⟨floor, term, vote, A, n, c, l⟩ := s
  obtain ⟨kind, src, dst, xt, la, lb, lc, bin, ok, B, m, d, xl⟩ := x
  dsimp only at *
  have hbs : Blk ((w.alloc (.cells #[.int .i64 floor, .int .i64 term, .int .i64 vote, .slice A n c] 45)).alloc (.cells #[.int .i64 kind, .int .i64 src, .int .i64 dst, .int .i64 xt, .int .i64 la, .int .i64 lb, .int .i64 lc, .int .i64 bin, .bool ok, .slice B m d] 47)) w.heap.size 45 [.int .i64 floor, .int .i64 term, .int .i64 vote, .slice A n c] := (Blk.new w 45 [.int .i64 floor, .int .i64 term, .int .i64 vote, .slice A n c]).alloc _
  have hbx : Blk ((w.alloc (.cells #[.int .i64 floor, .int .i64 term, .int .i64 vote, .slice A n c] 45)).alloc (.cells #[.int .i64 kind, .int .i64 src, .int .i64 dst, .int .i64 xt, .int .i64 la, .int .i64 lb, .int .i64 lc, .int .i64 bin, .bool ok, .slice B m d] 47)) (w.heap.size + 1) 47 [.int .i64 kind, .int .i64 src, .int .i64 dst, .int .i64 xt, .int .i64 la, .int .i64 lb, .int .i64 lc, .int .i64 bin, .bool ok, .slice B m d] := by
    have := Blk.new (w.alloc (.cells #[.int .i64 floor, .int .i64 term, .int .i64 vote, .slice A n c] 45)) 47 [.int .i64 kind, .int .i64 src, .int .i64 dst, .int .i64 xt, .int .i64 la, .int .i64 lb, .int .i64 lc, .int .i64 bin, .bool ok, .slice B m d]
    simpa using this
  have xw : Ext w ((w.alloc (.cells #[.int .i64 floor, .int .i64 term, .int .i64 vote, .slice A n c] 45)).alloc (.cells #[.int .i64 kind, .int .i64 src, .int .i64 dst, .int .i64 xt, .int .i64 la, .int .i64 lb, .int .i64 lc, .int .i64 bin, .bool ok, .slice B m d] 47)) := ((Ext.refl w).alloc _).alloc _
  have hs0 := hs.ext xw
  have hx0 := hx.ext xw
  have PM := Lib.hid (letter_May (⟨kind, src, dst, xt, la, lb, lc, bin, ok, B, m, d, xl⟩ : LV) ((w.alloc (.cells #[.int .i64 floor, .int .i64 term, .int .i64 vote, .slice A n c] 45)).alloc (.cells #[.int .i64 kind, .int .i64 src, .int .i64 dst, .int .i64 xt, .int .i64 la, .int .i64 lb, .int .i64 lc, .int .i64 bin, .bool ok, .slice B m d] 47)) hx0 (Nat.le_trans hm (by decide)))
  unfold SV.val LV.val at *
  dsimp only at *
  have HC : Hid (∀ V, Ext ((w.alloc (.cells #[.int .i64 floor, .int .i64 term, .int .i64 vote, .slice A n c] 45)).alloc (.cells #[.int .i64 kind, .int .i64 src, .int .i64 dst, .int .i64 xt, .int .i64 la, .int .i64 lb, .int .i64 lc, .int .i64 bin, .bool ok, .slice B m d] 47)) V → V.cell? ⟨w.heap.size, 0, none⟩ = some (.int .i64 floor) ∧ V.cell? ⟨w.heap.size, 1, none⟩ = some (.int .i64 term) ∧ V.cell? ⟨w.heap.size, 2, none⟩ = some (.int .i64 vote) ∧ V.cell? ⟨w.heap.size, 3, none⟩ = some (.slice A n c) ∧ V.cell? ⟨w.heap.size + 1, 0, none⟩ = some (.int .i64 kind) ∧ V.cell? ⟨w.heap.size + 1, 1, none⟩ = some (.int .i64 src) ∧ V.cell? ⟨w.heap.size + 1, 2, none⟩ = some (.int .i64 dst) ∧ V.cell? ⟨w.heap.size + 1, 3, none⟩ = some (.int .i64 xt) ∧ V.cell? ⟨w.heap.size + 1, 4, none⟩ = some (.int .i64 la) ∧ V.cell? ⟨w.heap.size + 1, 5, none⟩ = some (.int .i64 lb) ∧ V.cell? ⟨w.heap.size + 1, 6, none⟩ = some (.int .i64 lc) ∧ V.cell? ⟨w.heap.size + 1, 7, none⟩ = some (.int .i64 bin) ∧ V.cell? ⟨w.heap.size + 1, 8, none⟩ = some (.bool ok) ∧ V.cell? ⟨w.heap.size + 1, 9, none⟩ = some (.slice B m d)) := Lib.hid (fun V y => ⟨(hbs.ext y).cell 0, (hbs.ext y).cell 1, (hbs.ext y).cell 2, (hbs.ext y).cell 3, (hbx.ext y).cell 0, (hbx.ext y).cell 1, (hbx.ext y).cell 2, (hbx.ext y).cell 3, (hbx.ext y).cell 4, (hbx.ext y).cell 5, (hbx.ext y).cell 6, (hbx.ext y).cell 7, (hbx.ext y).cell 8, (hbx.ext y).cell 9⟩)
  obtain ⟨s0, s1, s2, s3, x0, x1, x2, x3, x4, x5, x6, x7, x8, x9⟩ := HC.out _ (Ext.refl _)
  clear hbs hbx hs hx
  rcases hmb : mayB (⟨kind, src, dst, xt, la, lb, lc, bin, ok, B, m, d, xl⟩ : LV) with _ | _
  · have hmr : mayR (⟨kind, src, dst, xt, la, lb, lc, bin, ok, B, m, d, xl⟩ : LV) = 1 := mayR_f hmb
    rw [hmr] at PM
    clear hb hmb hmr hs0 hx0 HC
    go_enter Try.func54, Try.ntmps54
    go_wp2_with fail
    refine PM.out.mono ?_
    rintro e w1 ⟨rfl, y1⟩
    go_wp2
    (try simp only [Exit.inBlock, Exit.then]); refine bodyPost_ret (results_tmp4s rfl _ _ _) rfl ?_
    exact ⟨rfl, xw.trans y1⟩
  · have hmr : mayR (⟨kind, src, dst, xt, la, lb, lc, bin, ok, B, m, d, xl⟩ : LV) = 0 := mayR_t hmb
    rw [hmr] at PM
    by_cases hk : kind = 3
    · subst hk
      obtain ⟨hla0, hla1, hm4⟩ := mayB_copy hmb rfl
      dsimp only at hla0 hla1 hm4
      have h64 : 64 < la + m := by
        rcases hb with q | q | q
        · rw [hmb] at q; cases q
        · exact absurd rfl q
        · exact q
      have e1 : IntKind.i64.wrap (la + m) = la + m := IntWalk.i64_in _ (by omega)
      have d1 := dec_t h64
      clear hb hmb hmr hs0 hx0
      go_enter Try.func54, Try.ntmps54
      go_wp2_with fail
      refine PM.out.mono ?_
      rintro e w1 ⟨rfl, y1⟩
      clear s0 s1 s2 s3 x0 x1 x2 x3 x4 x5 x6 x7 x8 x9
      obtain ⟨s0, s1, s2, s3, x0, x1, x2, x3, x4, x5, x6, x7, x8, x9⟩ := HC.out _ y1
      go_wp2
      (try simp only [Exit.inBlock, Exit.then]); refine bodyPost_ret (results_tmp4s rfl _ _ _) rfl ?_
      exact ⟨rfl, xw.trans y1⟩
    · have d1 := bne_t hk
      clear hb hmb hmr hs0 hx0
      go_enter Try.func54, Try.ntmps54
      go_wp2_with fail
      refine PM.out.mono ?_
      rintro e w1 ⟨rfl, y1⟩
      clear s0 s1 s2 s3 x0 x1 x2 x3 x4 x5 x6 x7 x8 x9
      obtain ⟨s0, s1, s2, s3, x0, x1, x2, x3, x4, x5, x6, x7, x8, x9⟩ := HC.out _ y1
      go_wp2
      (try simp only [Exit.inBlock, Exit.then]); refine bodyPost_ret (results_tmp4s rfl _ _ _) rfl ?_
      exact ⟨rfl, xw.trans y1⟩

set_option maxRecDepth 100000 in
set_option maxHeartbeats 3200000 in
theorem take_low (s : SV) (x : LV) (w : World) (hs : s.Ok w) (hx : x.Ok w) (hn : s.n ≤ 1000) (hm : x.n ≤ 1000) (hmay : mayB x = true) (hk : x.kind = 3) (h64 : x.a + x.n ≤ 64) (hlow : x.term < s.term) :
    Calls Try.prog 54 #[s.val, x.val] w fun e w' => e = .returned (.tuple #[.slice none 0 0, .bool false, .int .i64 0, .int .i64 0]) ∧ Ext w w' := by
  obtain ⟨floor, term, vote, A, n, c, l⟩ := s
  obtain ⟨kind, src, dst, xt, la, lb, lc, bin, ok, B, m, d, xl⟩ := x
  dsimp only at *
  have hbs : Blk ((w.alloc (.cells #[.int .i64 floor, .int .i64 term, .int .i64 vote, .slice A n c] 45)).alloc (.cells #[.int .i64 kind, .int .i64 src, .int .i64 dst, .int .i64 xt, .int .i64 la, .int .i64 lb, .int .i64 lc, .int .i64 bin, .bool ok, .slice B m d] 47)) w.heap.size 45 [.int .i64 floor, .int .i64 term, .int .i64 vote, .slice A n c] := (Blk.new w 45 [.int .i64 floor, .int .i64 term, .int .i64 vote, .slice A n c]).alloc _
  have hbx : Blk ((w.alloc (.cells #[.int .i64 floor, .int .i64 term, .int .i64 vote, .slice A n c] 45)).alloc (.cells #[.int .i64 kind, .int .i64 src, .int .i64 dst, .int .i64 xt, .int .i64 la, .int .i64 lb, .int .i64 lc, .int .i64 bin, .bool ok, .slice B m d] 47)) (w.heap.size + 1) 47 [.int .i64 kind, .int .i64 src, .int .i64 dst, .int .i64 xt, .int .i64 la, .int .i64 lb, .int .i64 lc, .int .i64 bin, .bool ok, .slice B m d] := by
    have := Blk.new (w.alloc (.cells #[.int .i64 floor, .int .i64 term, .int .i64 vote, .slice A n c] 45)) 47 [.int .i64 kind, .int .i64 src, .int .i64 dst, .int .i64 xt, .int .i64 la, .int .i64 lb, .int .i64 lc, .int .i64 bin, .bool ok, .slice B m d]
    simpa using this
  have xw : Ext w ((w.alloc (.cells #[.int .i64 floor, .int .i64 term, .int .i64 vote, .slice A n c] 45)).alloc (.cells #[.int .i64 kind, .int .i64 src, .int .i64 dst, .int .i64 xt, .int .i64 la, .int .i64 lb, .int .i64 lc, .int .i64 bin, .bool ok, .slice B m d] 47)) := ((Ext.refl w).alloc _).alloc _
  have hs0 := hs.ext xw
  have hx0 := hx.ext xw
  have PM := Lib.hid (letter_May (⟨kind, src, dst, xt, la, lb, lc, bin, ok, B, m, d, xl⟩ : LV) ((w.alloc (.cells #[.int .i64 floor, .int .i64 term, .int .i64 vote, .slice A n c] 45)).alloc (.cells #[.int .i64 kind, .int .i64 src, .int .i64 dst, .int .i64 xt, .int .i64 la, .int .i64 lb, .int .i64 lc, .int .i64 bin, .bool ok, .slice B m d] 47)) hx0 (Nat.le_trans hm (by decide)))
  unfold SV.val LV.val at *
  dsimp only at *
  have HC : Hid (∀ V, Ext ((w.alloc (.cells #[.int .i64 floor, .int .i64 term, .int .i64 vote, .slice A n c] 45)).alloc (.cells #[.int .i64 kind, .int .i64 src, .int .i64 dst, .int .i64 xt, .int .i64 la, .int .i64 lb, .int .i64 lc, .int .i64 bin, .bool ok, .slice B m d] 47)) V → V.cell? ⟨w.heap.size, 0, none⟩ = some (.int .i64 floor) ∧ V.cell? ⟨w.heap.size, 1, none⟩ = some (.int .i64 term) ∧ V.cell? ⟨w.heap.size, 2, none⟩ = some (.int .i64 vote) ∧ V.cell? ⟨w.heap.size, 3, none⟩ = some (.slice A n c) ∧ V.cell? ⟨w.heap.size + 1, 0, none⟩ = some (.int .i64 kind) ∧ V.cell? ⟨w.heap.size + 1, 1, none⟩ = some (.int .i64 src) ∧ V.cell? ⟨w.heap.size + 1, 2, none⟩ = some (.int .i64 dst) ∧ V.cell? ⟨w.heap.size + 1, 3, none⟩ = some (.int .i64 xt) ∧ V.cell? ⟨w.heap.size + 1, 4, none⟩ = some (.int .i64 la) ∧ V.cell? ⟨w.heap.size + 1, 5, none⟩ = some (.int .i64 lb) ∧ V.cell? ⟨w.heap.size + 1, 6, none⟩ = some (.int .i64 lc) ∧ V.cell? ⟨w.heap.size + 1, 7, none⟩ = some (.int .i64 bin) ∧ V.cell? ⟨w.heap.size + 1, 8, none⟩ = some (.bool ok) ∧ V.cell? ⟨w.heap.size + 1, 9, none⟩ = some (.slice B m d)) := Lib.hid (fun V y => ⟨(hbs.ext y).cell 0, (hbs.ext y).cell 1, (hbs.ext y).cell 2, (hbs.ext y).cell 3, (hbx.ext y).cell 0, (hbx.ext y).cell 1, (hbx.ext y).cell 2, (hbx.ext y).cell 3, (hbx.ext y).cell 4, (hbx.ext y).cell 5, (hbx.ext y).cell 6, (hbx.ext y).cell 7, (hbx.ext y).cell 8, (hbx.ext y).cell 9⟩)
  obtain ⟨s0, s1, s2, s3, x0, x1, x2, x3, x4, x5, x6, x7, x8, x9⟩ := HC.out _ (Ext.refl _)
  clear hbs hbx hs hx
  subst hk
  have hmr : mayR (⟨3, src, dst, xt, la, lb, lc, bin, ok, B, m, d, xl⟩ : LV) = 0 := mayR_t hmay
  obtain ⟨hla0, hla1, hm4⟩ := mayB_copy hmay rfl
  dsimp only at hla0 hla1 hm4
  rw [hmr] at PM
  obtain ⟨a, rfl⟩ := Int.eq_ofNat_of_zero_le hla0
  have e1 : IntKind.i64.wrap ((a : Int) + m) = (a : Int) + m := IntWalk.i64_in _ (by omega)
  have d1 := dec_f (show ¬ (64 : Int) < (a : Int) + m by omega)
  have d1b := dec_f (show ¬ 64 < a + m by omega)
  clear hmay hmr
  have d2 := dec_t hlow
  go_enter Try.func54, Try.ntmps54
  go_wp2_with fail
  refine PM.out.mono ?_
  rintro e w1 ⟨rfl, y1⟩
  clear s0 s1 s2 s3 x0 x1 x2 x3 x4 x5 x6 x7 x8 x9
  obtain ⟨s0, s1, s2, s3, x0, x1, x2, x3, x4, x5, x6, x7, x8, x9⟩ := HC.out _ y1
  go_wp2
  (try simp only [Exit.inBlock, Exit.then]); refine bodyPost_ret (results_tmp4s rfl _ _ _) rfl ?_
  exact ⟨rfl, xw.trans y1⟩

set_option maxRecDepth 100000 in
set_option maxHeartbeats 3200000 in
theorem take_no (s : SV) (x : LV) (w : World) (hs : s.Ok w) (hx : x.Ok w) (hn : s.n ≤ 1000) (hm : x.n ≤ 1000) (hmay : mayB x = true) (hk : x.kind = 3) (h64 : x.a + x.n ≤ 64) (hlow : ¬ x.term < s.term) (hmt : termB s.l x.a ≠ x.b) :
    Calls Try.prog 54 #[s.val, x.val] w fun e w' => ∃ v, e = .returned (.tuple #[v, .bool false, .int .i64 0, .int .i64 0]) ∧ w'.ownsRow w.heap.size 70 4 v (newerL s.term x.term).length (recOf (newerL s.term x.term)) ∧ Ext w w' := by
  obtain ⟨floor, term, vote, A, n, c, l⟩ := s
  obtain ⟨kind, src, dst, xt, la, lb, lc, bin, ok, B, m, d, xl⟩ := x
  dsimp only at *
  have hbs : Blk ((w.alloc (.cells #[.int .i64 floor, .int .i64 term, .int .i64 vote, .slice A n c] 45)).alloc (.cells #[.int .i64 kind, .int .i64 src, .int .i64 dst, .int .i64 xt, .int .i64 la, .int .i64 lb, .int .i64 lc, .int .i64 bin, .bool ok, .slice B m d] 47)) w.heap.size 45 [.int .i64 floor, .int .i64 term, .int .i64 vote, .slice A n c] := (Blk.new w 45 [.int .i64 floor, .int .i64 term, .int .i64 vote, .slice A n c]).alloc _
  have hbx : Blk ((w.alloc (.cells #[.int .i64 floor, .int .i64 term, .int .i64 vote, .slice A n c] 45)).alloc (.cells #[.int .i64 kind, .int .i64 src, .int .i64 dst, .int .i64 xt, .int .i64 la, .int .i64 lb, .int .i64 lc, .int .i64 bin, .bool ok, .slice B m d] 47)) (w.heap.size + 1) 47 [.int .i64 kind, .int .i64 src, .int .i64 dst, .int .i64 xt, .int .i64 la, .int .i64 lb, .int .i64 lc, .int .i64 bin, .bool ok, .slice B m d] := by
    have := Blk.new (w.alloc (.cells #[.int .i64 floor, .int .i64 term, .int .i64 vote, .slice A n c] 45)) 47 [.int .i64 kind, .int .i64 src, .int .i64 dst, .int .i64 xt, .int .i64 la, .int .i64 lb, .int .i64 lc, .int .i64 bin, .bool ok, .slice B m d]
    simpa using this
  have xw : Ext w ((w.alloc (.cells #[.int .i64 floor, .int .i64 term, .int .i64 vote, .slice A n c] 45)).alloc (.cells #[.int .i64 kind, .int .i64 src, .int .i64 dst, .int .i64 xt, .int .i64 la, .int .i64 lb, .int .i64 lc, .int .i64 bin, .bool ok, .slice B m d] 47)) := ((Ext.refl w).alloc _).alloc _
  have hs0 := hs.ext xw
  have hx0 := hx.ext xw
  have PM := Lib.hid (letter_May (⟨kind, src, dst, xt, la, lb, lc, bin, ok, B, m, d, xl⟩ : LV) ((w.alloc (.cells #[.int .i64 floor, .int .i64 term, .int .i64 vote, .slice A n c] 45)).alloc (.cells #[.int .i64 kind, .int .i64 src, .int .i64 dst, .int .i64 xt, .int .i64 la, .int .i64 lb, .int .i64 lc, .int .i64 bin, .bool ok, .slice B m d] 47)) hx0 (Nat.le_trans hm (by decide)))
  unfold SV.val LV.val at *
  dsimp only at *
  have HC : Hid (∀ V, Ext ((w.alloc (.cells #[.int .i64 floor, .int .i64 term, .int .i64 vote, .slice A n c] 45)).alloc (.cells #[.int .i64 kind, .int .i64 src, .int .i64 dst, .int .i64 xt, .int .i64 la, .int .i64 lb, .int .i64 lc, .int .i64 bin, .bool ok, .slice B m d] 47)) V → V.cell? ⟨w.heap.size, 0, none⟩ = some (.int .i64 floor) ∧ V.cell? ⟨w.heap.size, 1, none⟩ = some (.int .i64 term) ∧ V.cell? ⟨w.heap.size, 2, none⟩ = some (.int .i64 vote) ∧ V.cell? ⟨w.heap.size, 3, none⟩ = some (.slice A n c) ∧ V.cell? ⟨w.heap.size + 1, 0, none⟩ = some (.int .i64 kind) ∧ V.cell? ⟨w.heap.size + 1, 1, none⟩ = some (.int .i64 src) ∧ V.cell? ⟨w.heap.size + 1, 2, none⟩ = some (.int .i64 dst) ∧ V.cell? ⟨w.heap.size + 1, 3, none⟩ = some (.int .i64 xt) ∧ V.cell? ⟨w.heap.size + 1, 4, none⟩ = some (.int .i64 la) ∧ V.cell? ⟨w.heap.size + 1, 5, none⟩ = some (.int .i64 lb) ∧ V.cell? ⟨w.heap.size + 1, 6, none⟩ = some (.int .i64 lc) ∧ V.cell? ⟨w.heap.size + 1, 7, none⟩ = some (.int .i64 bin) ∧ V.cell? ⟨w.heap.size + 1, 8, none⟩ = some (.bool ok) ∧ V.cell? ⟨w.heap.size + 1, 9, none⟩ = some (.slice B m d)) := Lib.hid (fun V y => ⟨(hbs.ext y).cell 0, (hbs.ext y).cell 1, (hbs.ext y).cell 2, (hbs.ext y).cell 3, (hbx.ext y).cell 0, (hbx.ext y).cell 1, (hbx.ext y).cell 2, (hbx.ext y).cell 3, (hbx.ext y).cell 4, (hbx.ext y).cell 5, (hbx.ext y).cell 6, (hbx.ext y).cell 7, (hbx.ext y).cell 8, (hbx.ext y).cell 9⟩)
  obtain ⟨s0, s1, s2, s3, x0, x1, x2, x3, x4, x5, x6, x7, x8, x9⟩ := HC.out _ (Ext.refl _)
  clear hbs hbx hs hx
  subst hk
  have hmr : mayR (⟨3, src, dst, xt, la, lb, lc, bin, ok, B, m, d, xl⟩ : LV) = 0 := mayR_t hmay
  obtain ⟨hla0, hla1, hm4⟩ := mayB_copy hmay rfl
  dsimp only at hla0 hla1 hm4
  rw [hmr] at PM
  obtain ⟨a, rfl⟩ := Int.eq_ofNat_of_zero_le hla0
  have e1 : IntKind.i64.wrap ((a : Int) + m) = (a : Int) + m := IntWalk.i64_in _ (by omega)
  have d1 := dec_f (show ¬ (64 : Int) < (a : Int) + m by omega)
  have d1b := dec_f (show ¬ 64 < a + m by omega)
  clear hmay hmr
  have PN := Lib.hid (fun V => elect_Newer (⟨floor, term, vote, A, n, c, l⟩ : SV) xt V)
  unfold SV.val at PN
  dsimp only at PN
  have d2 := dec_f hlow
  have hte := beq_f hmt
  have PT := Lib.hid (fun V (y : Ext ((w.alloc (.cells #[.int .i64 floor, .int .i64 term, .int .i64 vote, .slice A n c] 45)).alloc (.cells #[.int .i64 3, .int .i64 src, .int .i64 dst, .int .i64 xt, .int .i64 (a : Int), .int .i64 lb, .int .i64 lc, .int .i64 bin, .bool ok, .slice B m d] 47)) V) => logs_Match A n c l a lb V (hs0.es.ext y) hn)
  rw [hte] at PT
  clear hte
  go_enter Try.func54, Try.ntmps54
  go_wp2_with fail
  refine PM.out.mono ?_
  rintro e w1 ⟨rfl, y1⟩
  clear s0 s1 s2 s3 x0 x1 x2 x3 x4 x5 x6 x7 x8 x9
  obtain ⟨s0, s1, s2, s3, x0, x1, x2, x3, x4, x5, x6, x7, x8, x9⟩ := HC.out _ y1
  go_wp2_with fail
  refine (PN.out _).mono ?_
  rintro e w2 ⟨v2, rfl, hown2, y2'⟩
  have y2 := y1.trans y2'
  obtain ⟨A2, c2, rfl, _⟩ := own_form hown2
  clear s0 s1 s2 s3 x0 x1 x2 x3 x4 x5 x6 x7 x8 x9
  obtain ⟨s0, s1, s2, s3, x0, x1, x2, x3, x4, x5, x6, x7, x8, x9⟩ := HC.out _ y2
  go_wp2_with fail
  refine (PT.out _ y2).mono ?_
  rintro e w3 ⟨rfl, rfl⟩
  go_wp2
  (try simp only [Exit.inBlock, Exit.then]); refine bodyPost_ret (results_tmp4s rfl _ _ _) rfl ?_
  exact ⟨_, rfl, own_base hown2 (xw.trans y1).size, xw.trans y2⟩

set_option maxRecDepth 100000 in
set_option maxHeartbeats 6400000 in
theorem take_yes (s : SV) (x : LV) (w : World) (hs : s.Ok w) (hx : x.Ok w) (hn : s.n ≤ 1000) (hm : x.n ≤ 1000) (hmay : mayB x = true) (hk : x.kind = 3) (h64 : x.a + x.n ≤ 64) (hlow : ¬ x.term < s.term) (hmt : termB s.l x.a = x.b) :
    Calls Try.prog 54 #[s.val, x.val] w fun e w' => ∃ v, e = .returned (.tuple #[v, .bool true, .int .i64 (x.a + x.n), .int .i64 0]) ∧ w'.ownsRow w.heap.size 70 4 v (takeL s.term s.l x.term x.a x.l).length (recOf (takeL s.term s.l x.term x.a x.l)) ∧ Ext w w' := by
  obtain ⟨floor, term, vote, A, n, c, l⟩ := s
  obtain ⟨kind, src, dst, xt, la, lb, lc, bin, ok, B, m, d, xl⟩ := x
  dsimp only at *
  have hbs : Blk ((w.alloc (.cells #[.int .i64 floor, .int .i64 term, .int .i64 vote, .slice A n c] 45)).alloc (.cells #[.int .i64 kind, .int .i64 src, .int .i64 dst, .int .i64 xt, .int .i64 la, .int .i64 lb, .int .i64 lc, .int .i64 bin, .bool ok, .slice B m d] 47)) w.heap.size 45 [.int .i64 floor, .int .i64 term, .int .i64 vote, .slice A n c] := (Blk.new w 45 [.int .i64 floor, .int .i64 term, .int .i64 vote, .slice A n c]).alloc _
  have hbx : Blk ((w.alloc (.cells #[.int .i64 floor, .int .i64 term, .int .i64 vote, .slice A n c] 45)).alloc (.cells #[.int .i64 kind, .int .i64 src, .int .i64 dst, .int .i64 xt, .int .i64 la, .int .i64 lb, .int .i64 lc, .int .i64 bin, .bool ok, .slice B m d] 47)) (w.heap.size + 1) 47 [.int .i64 kind, .int .i64 src, .int .i64 dst, .int .i64 xt, .int .i64 la, .int .i64 lb, .int .i64 lc, .int .i64 bin, .bool ok, .slice B m d] := by
    have := Blk.new (w.alloc (.cells #[.int .i64 floor, .int .i64 term, .int .i64 vote, .slice A n c] 45)) 47 [.int .i64 kind, .int .i64 src, .int .i64 dst, .int .i64 xt, .int .i64 la, .int .i64 lb, .int .i64 lc, .int .i64 bin, .bool ok, .slice B m d]
    simpa using this
  have xw : Ext w ((w.alloc (.cells #[.int .i64 floor, .int .i64 term, .int .i64 vote, .slice A n c] 45)).alloc (.cells #[.int .i64 kind, .int .i64 src, .int .i64 dst, .int .i64 xt, .int .i64 la, .int .i64 lb, .int .i64 lc, .int .i64 bin, .bool ok, .slice B m d] 47)) := ((Ext.refl w).alloc _).alloc _
  have hs0 := hs.ext xw
  have hx0 := hx.ext xw
  have PM := Lib.hid (letter_May (⟨kind, src, dst, xt, la, lb, lc, bin, ok, B, m, d, xl⟩ : LV) ((w.alloc (.cells #[.int .i64 floor, .int .i64 term, .int .i64 vote, .slice A n c] 45)).alloc (.cells #[.int .i64 kind, .int .i64 src, .int .i64 dst, .int .i64 xt, .int .i64 la, .int .i64 lb, .int .i64 lc, .int .i64 bin, .bool ok, .slice B m d] 47)) hx0 (Nat.le_trans hm (by decide)))
  unfold SV.val LV.val at *
  dsimp only at *
  have HC : Hid (∀ V, Ext ((w.alloc (.cells #[.int .i64 floor, .int .i64 term, .int .i64 vote, .slice A n c] 45)).alloc (.cells #[.int .i64 kind, .int .i64 src, .int .i64 dst, .int .i64 xt, .int .i64 la, .int .i64 lb, .int .i64 lc, .int .i64 bin, .bool ok, .slice B m d] 47)) V → V.cell? ⟨w.heap.size, 0, none⟩ = some (.int .i64 floor) ∧ V.cell? ⟨w.heap.size, 1, none⟩ = some (.int .i64 term) ∧ V.cell? ⟨w.heap.size, 2, none⟩ = some (.int .i64 vote) ∧ V.cell? ⟨w.heap.size, 3, none⟩ = some (.slice A n c) ∧ V.cell? ⟨w.heap.size + 1, 0, none⟩ = some (.int .i64 kind) ∧ V.cell? ⟨w.heap.size + 1, 1, none⟩ = some (.int .i64 src) ∧ V.cell? ⟨w.heap.size + 1, 2, none⟩ = some (.int .i64 dst) ∧ V.cell? ⟨w.heap.size + 1, 3, none⟩ = some (.int .i64 xt) ∧ V.cell? ⟨w.heap.size + 1, 4, none⟩ = some (.int .i64 la) ∧ V.cell? ⟨w.heap.size + 1, 5, none⟩ = some (.int .i64 lb) ∧ V.cell? ⟨w.heap.size + 1, 6, none⟩ = some (.int .i64 lc) ∧ V.cell? ⟨w.heap.size + 1, 7, none⟩ = some (.int .i64 bin) ∧ V.cell? ⟨w.heap.size + 1, 8, none⟩ = some (.bool ok) ∧ V.cell? ⟨w.heap.size + 1, 9, none⟩ = some (.slice B m d)) := Lib.hid (fun V y => ⟨(hbs.ext y).cell 0, (hbs.ext y).cell 1, (hbs.ext y).cell 2, (hbs.ext y).cell 3, (hbx.ext y).cell 0, (hbx.ext y).cell 1, (hbx.ext y).cell 2, (hbx.ext y).cell 3, (hbx.ext y).cell 4, (hbx.ext y).cell 5, (hbx.ext y).cell 6, (hbx.ext y).cell 7, (hbx.ext y).cell 8, (hbx.ext y).cell 9⟩)
  obtain ⟨s0, s1, s2, s3, x0, x1, x2, x3, x4, x5, x6, x7, x8, x9⟩ := HC.out _ (Ext.refl _)
  clear hbs hbx hs hx
  subst hk
  have hmr : mayR (⟨3, src, dst, xt, la, lb, lc, bin, ok, B, m, d, xl⟩ : LV) = 0 := mayR_t hmay
  obtain ⟨hla0, hla1, hm4⟩ := mayB_copy hmay rfl
  dsimp only at hla0 hla1 hm4
  rw [hmr] at PM
  obtain ⟨a, rfl⟩ := Int.eq_ofNat_of_zero_le hla0
  have e1 : IntKind.i64.wrap ((a : Int) + m) = (a : Int) + m := IntWalk.i64_in _ (by omega)
  have d1 := dec_f (show ¬ (64 : Int) < (a : Int) + m by omega)
  have d1b := dec_f (show ¬ 64 < a + m by omega)
  clear hmay hmr
  have PN := Lib.hid (fun V => elect_Newer (⟨floor, term, vote, A, n, c, l⟩ : SV) xt V)
  unfold SV.val at PN
  dsimp only at PN
  have d2 := dec_f hlow
  have hte : (termB l a == lb) = true := by rw [hmt]; exact beq_self_eq_true _
  have PT := Lib.hid (fun V (y : Ext ((w.alloc (.cells #[.int .i64 floor, .int .i64 term, .int .i64 vote, .slice A n c] 45)).alloc (.cells #[.int .i64 3, .int .i64 src, .int .i64 dst, .int .i64 xt, .int .i64 (a : Int), .int .i64 lb, .int .i64 lc, .int .i64 bin, .bool ok, .slice B m d] 47)) V) => logs_Match A n c l a lb V (hs0.es.ext y) hn)
  rw [hte] at PT
  clear hte
  have PG := Lib.hid (fun V (y : Ext ((w.alloc (.cells #[.int .i64 floor, .int .i64 term, .int .i64 vote, .slice A n c] 45)).alloc (.cells #[.int .i64 3, .int .i64 src, .int .i64 dst, .int .i64 xt, .int .i64 (a : Int), .int .i64 lb, .int .i64 lc, .int .i64 bin, .bool ok, .slice B m d] 47)) V) => logs_Merge A n c l a B m d xl V (hs0.es.ext y) (hx0.es.ext y) hn hm hs0.le hx0.le)
  have hgl := mergeB_le l a xl
  have hxl := hx0.es.len
  have HBO : Hid (∀ f ∈ (mergeB l a xl).2, f.Ok ((w.alloc (.cells #[.int .i64 floor, .int .i64 term, .int .i64 vote, .slice A n c] 45)).alloc (.cells #[.int .i64 3, .int .i64 src, .int .i64 dst, .int .i64 xt, .int .i64 (a : Int), .int .i64 lb, .int .i64 lc, .int .i64 bin, .bool ok, .slice B m d] 47))) := Lib.hid (fun f hf => hx0.es.ok f (mergeB_mem l a xl f hf))
  rw [hxl] at hgl
  have hTL : takeL term l xt a xl = newerL term xt ++ cutR (mergeB l a xl).1 ++ entR ((a : Int) + m - (mergeB l a xl).2.length + 1) (mergeB l a xl).2 := by unfold takeL; rw [hxl]
  rw [hTL]
  clear hTL hxl
  generalize mergeB l a xl = mg at *
  obtain ⟨mc, rest⟩ := mg
  dsimp only at PG hgl HBO ⊢
  generalize hr : rest.length = r at *
  have HR := Lib.hid hr
  clear hr
  go_enter Try.func54, Try.ntmps54
  go_wp2_with fail
  refine PM.out.mono ?_
  rintro e w1 ⟨rfl, y1⟩
  clear s0 s1 s2 s3 x0 x1 x2 x3 x4 x5 x6 x7 x8 x9
  obtain ⟨s0, s1, s2, s3, x0, x1, x2, x3, x4, x5, x6, x7, x8, x9⟩ := HC.out _ y1
  go_wp2_with fail
  refine (PN.out _).mono ?_
  rintro e w2 ⟨v2, rfl, hown2, y2'⟩
  have y2 := y1.trans y2'
  obtain ⟨A2, c2, rfl, _⟩ := own_form hown2
  clear s0 s1 s2 s3 x0 x1 x2 x3 x4 x5 x6 x7 x8 x9
  obtain ⟨s0, s1, s2, s3, x0, x1, x2, x3, x4, x5, x6, x7, x8, x9⟩ := HC.out _ y2
  go_wp2_with fail
  refine (PT.out _ y2).mono ?_
  rintro e w3 ⟨rfl, rfl⟩
  clear s0 s1 s2 s3 x0 x1 x2 x3 x4 x5 x6 x7 x8 x9
  obtain ⟨s0, s1, s2, s3, x0, x1, x2, x3, x4, x5, x6, x7, x8, x9⟩ := HC.out _ y2
  go_wp2_with fail
  refine (PG.out _ y2).mono ?_
  rintro e w4 ⟨v4, rfl, hown4, y4'⟩
  obtain ⟨A4, c4, rfl, _⟩ := own_form hown4
  have y4 := y2.trans y4'
  clear s0 s1 s2 s3 x0 x1 x2 x3 x4 x5 x6 x7 x8 x9
  obtain ⟨s0, s1, s2, s3, x0, x1, x2, x3, x4, x5, x6, x7, x8, x9⟩ := HC.out _ y4
  have hr0 := own_base (own_ext hown2 y4') y1.size
  have hr4 := own_base hown4 y2.size
  clear hown2 hown4 y4' y2'
  clear s0 s1 s2 s3 x0 x1 x2 x3 x4 x5 x6 x7 x8 x9
  have hnl : (newerL term xt).length ≤ 1 := by unfold newerL; split <;> simp
  generalize hnp : newerL term xt = np at *
  have HNP := Lib.hid hnp
  clear hnp
  have hsz4 := y4.size
  go_upto_if 64 with fail
  go_cut [4] (fun v wx => ∃ v', v = v' ∧ wx.ownsRow ((w.alloc (.cells #[.int .i64 floor, .int .i64 term, .int .i64 vote, .slice A n c] 45)).alloc (.cells #[.int .i64 3, .int .i64 src, .int .i64 dst, .int .i64 xt, .int .i64 (a : Int), .int .i64 lb, .int .i64 lc, .int .i64 bin, .bool ok, .slice B m d] 47)).heap.size 70 4 v' (np ++ cutR mc).length (recOf (np ++ cutR mc)) ∧ wx.ownsRow ((w.alloc (.cells #[.int .i64 floor, .int .i64 term, .int .i64 vote, .slice A n c] 45)).alloc (.cells #[.int .i64 3, .int .i64 src, .int .i64 dst, .int .i64 xt, .int .i64 (a : Int), .int .i64 lb, .int .i64 lc, .int .i64 bin, .bool ok, .slice B m d] 47)).heap.size 36 2 (.slice A4 r c4) r (logOf rest) ∧ Ext ((w.alloc (.cells #[.int .i64 floor, .int .i64 term, .int .i64 vote, .slice A n c] 45)).alloc (.cells #[.int .i64 3, .int .i64 src, .int .i64 dst, .int .i64 xt, .int .i64 (a : Int), .int .i64 lb, .int .i64 lc, .int .i64 bin, .bool ok, .slice B m d] 47)) wx)
  case first =>
    by_cases hmc : mc = 0
    · have ec : np ++ cutR mc = np := by unfold cutR; rw [if_pos hmc, List.append_nil]
      have EC := Lib.hid ec
      have d5 := bne_f (show (mc : Int) = 0 by omega)
      clear ec
      subst hmc
      go_wp2_with fail
      go_meet
      exact ⟨_, rfl, own_to hr0 (Nat.le_refl _) (by rw [EC.out]) (by rw [EC.out]), hr4, y4⟩
    · have ec : np ++ cutR mc = np ++ [⟨4, mc, 0, none, 0, 0, []⟩] := by unfold cutR; rw [if_neg hmc]
      have EC := Lib.hid ec
      have d5 := bne_t (show (mc : Int) ≠ 0 by omega)
      clear ec hmc
      have hra := hr0.alloc (.cells #[.int .i64 4, .int .i64 mc, .int .i64 0, .slice none 0 0] 70)
      have hrb := hr4.alloc (.cells #[.int .i64 4, .int .i64 mc, .int .i64 0, .slice none 0 0] 70)
      have ya : Ext ((w.alloc (.cells #[.int .i64 floor, .int .i64 term, .int .i64 vote, .slice A n c] 45)).alloc (.cells #[.int .i64 3, .int .i64 src, .int .i64 dst, .int .i64 xt, .int .i64 (a : Int), .int .i64 lb, .int .i64 lc, .int .i64 bin, .bool ok, .slice B m d] 47)) (w4.alloc (.cells #[.int .i64 4, .int .i64 mc, .int .i64 0, .slice none 0 0] 70)) := y4.alloc _
      have hap := apart_s hrb hra (by decide)
      go_wp2_with (at_builtin; refine wpList_app recsT (by omega) _ rfl rfl rfl hra rfl (rd_at4s _ (.int .i64 4) (.int .i64 mc) (.int .i64 0) (.slice none 0 0) _ _ (by simp)) (RV.cells_one ⟨4, mc, 0, none, 0, 0, []⟩) (by unfold maxLen; omega) (by omega) ya.size ?_; intro v5 w5 hown5 hg5 hat5)
      have y5 : Ext ((w.alloc (.cells #[.int .i64 floor, .int .i64 term, .int .i64 vote, .slice A n c] 45)).alloc (.cells #[.int .i64 3, .int .i64 src, .int .i64 dst, .int .i64 xt, .int .i64 (a : Int), .int .i64 lb, .int .i64 lc, .int .i64 bin, .bool ok, .slice B m d] 47)) w5 := Below.app ya hg5 ya.size hra (Nat.le_refl _)
      have hr5 := hrb.kept hg5 hap
      go_meet
      exact ⟨_, rfl, own_to hown5 (Nat.le_refl _) (by rw [EC.out]; simp) (by rw [EC.out, recOf_append, recOf_one]; rfl), hr5, y5⟩
  case rest =>
    obtain ⟨v6, rfl, hr6, hr7, y6⟩ := hcut
    have hpl : (np ++ cutR mc).length ≤ 2 := by
      rw [List.length_append]
      have : (cutR mc).length ≤ 1 := by unfold cutR; split <;> simp
      omega
    generalize hpr : np ++ cutR mc = pr at *
    have HPR := Lib.hid hpr
    clear hpr
    have hsz6 := y6.size
    have k1 : IntKind.i64.wrap ((a : Int) + m - r) = (a : Int) + m - r := IntWalk.i64_in _ (by omega)
    have HE := Lib.hid (entR_len ((a : Int) + m - r + 1) rest)
    have HG := Lib.hid (fun j (h : j < rest.length) => entR_snoc ((a : Int) + m - r + 1) rest j h)
    generalize hen : entR ((a : Int) + m - r + 1) rest = en at *
    have HEN := Lib.hid hen
    clear hen hr0 hr4 hsz4 hnl y4 y1 hs0 hx0
    go_wp2
    go_loopw [4, 72] (fun v4 v72 wr => ∃ (j : Nat) (v' : Value), v4 = v' ∧ v72 = .int .i64 j ∧ j ≤ r ∧ wr.ownsRow ((w.alloc (.cells #[.int .i64 floor, .int .i64 term, .int .i64 vote, .slice A n c] 45)).alloc (.cells #[.int .i64 3, .int .i64 src, .int .i64 dst, .int .i64 xt, .int .i64 (a : Int), .int .i64 lb, .int .i64 lc, .int .i64 bin, .bool ok, .slice B m d] 47)).heap.size 70 4 v' (pr.length + j) (recOf (pr ++ en.take j)) ∧ wr.ownsRow ((w.alloc (.cells #[.int .i64 floor, .int .i64 term, .int .i64 vote, .slice A n c] 45)).alloc (.cells #[.int .i64 3, .int .i64 src, .int .i64 dst, .int .i64 xt, .int .i64 (a : Int), .int .i64 lb, .int .i64 lc, .int .i64 bin, .bool ok, .slice B m d] 47)).heap.size 36 2 (.slice A4 r c4) r (logOf rest) ∧ Ext ((w.alloc (.cells #[.int .i64 floor, .int .i64 term, .int .i64 vote, .slice A n c] 45)).alloc (.cells #[.int .i64 3, .int .i64 src, .int .i64 dst, .int .i64 xt, .int .i64 (a : Int), .int .i64 lb, .int .i64 lc, .int .i64 bin, .bool ok, .slice B m d] 47)) wr) (fun _ i _ => r - (intOf i).toNat)
    case atStart => exact ⟨0, _, rfl, rfl, by omega, own_to hr6 (Nat.le_refl _) (by omega) (by simp), hr7, y6⟩
    case round =>
      obtain ⟨j, v', rfl, rfl, hj, hro, hre, hx⟩ := hrel
      clear hr6 hr7 y6 hsz6
      obtain ⟨A8, c8, rfl, _⟩ := own_form hro
      have hszr := hx.size
      by_cases hjr : j < r
      · have hjl : j < rest.length := by have := HR.out; omega
        have es := Es.of_own hre (fun f hf => (HBO.out f hf).ext hx)
        obtain ⟨b4, off4, hA4, p0, p1⟩ := es.at_ hjr
        have hsn := HG.out j hjl
        have h3 : (a : Int) + m - r + 1 + j = (a : Int) + m - r + j + 1 := by omega
        rw [h3] at hsn
        have HS := Lib.hid hsn
        clear hsn h3
        subst hA4
        generalize rest[j] = y at *
        obtain ⟨yt, yA, yl, yc, yb⟩ := y
        dsimp only at p0 p1 HS
        clear es
        have k2 : IntKind.i64.wrap ((a : Int) + m - r + j) = (a : Int) + m - r + j := IntWalk.i64_in _ (by omega)
        have k3 : IntKind.i64.wrap ((a : Int) + m - r + j + 1) = (a : Int) + m - r + j + 1 := IntWalk.i64_in _ (by omega)
        have hra := (hro.alloc (.cells #[.int .i64 yt, .slice yA yl yc] 36)).alloc (.cells #[.int .i64 3, .int .i64 ((a : Int) + m - r + j + 1), .int .i64 yt, .slice yA yl yc] 70)
        have hrb := (hre.alloc (.cells #[.int .i64 yt, .slice yA yl yc] 36)).alloc (.cells #[.int .i64 3, .int .i64 ((a : Int) + m - r + j + 1), .int .i64 yt, .slice yA yl yc] 70)
        have ya : Ext ((w.alloc (.cells #[.int .i64 floor, .int .i64 term, .int .i64 vote, .slice A n c] 45)).alloc (.cells #[.int .i64 3, .int .i64 src, .int .i64 dst, .int .i64 xt, .int .i64 (a : Int), .int .i64 lb, .int .i64 lc, .int .i64 bin, .bool ok, .slice B m d] 47)) ((wr.alloc (.cells #[.int .i64 yt, .slice yA yl yc] 36)).alloc (.cells #[.int .i64 3, .int .i64 ((a : Int) + m - r + j + 1), .int .i64 yt, .slice yA yl yc] 70)) := (hx.alloc _).alloc _
        have hap := apart_s hrb hra (by decide)
        go_wp2_with (at_builtin; refine wpList_app recsT (by omega) _ rfl rfl rfl hra rfl (rd_at4s _ (.int .i64 3) (.int .i64 ((a : Int) + m - r + j + 1)) (.int .i64 yt) (.slice yA yl yc) _ _ (by simp)) (RV.cells_one ⟨3, (a : Int) + m - r + j + 1, yt, yA, yl, yc, yb⟩) (by unfold maxLen; omega) (by omega) ya.size ?_; intro v5 w5 hown5 hg5 hat5)
        go_roundw
        case rel => exact ⟨j + 1, v5, rfl, val_int (by omega), by omega, own_to hown5 (Nat.le_refl _) (by omega) (by rw [HS.out, ← List.append_assoc, recOf_append (pr ++ en.take j), recOf_one]; rfl), hrb.kept hg5 hap, Below.app ya hg5 ya.size hra (Nat.le_refl _)⟩
        case measure => simp [intOf]; omega
      · have hje : j = r := by omega
        have htk : en.take j = en := List.take_of_length_le (by have := HE.out; have := HR.out; omega)
        rw [htk] at hro
        have HO := Lib.hid (own_to (base' := w.heap.size) (n' := (pr ++ en).length) hro xw.size (by rw [List.length_append]; have := HE.out; have := HR.out; omega) rfl)
        clear htk hro hre HE HG HR HBO
        subst hje
        go_wp2
        (try simp only [Exit.inBlock, Exit.then]); refine bodyPost_ret (results_tmp4s rfl _ _ _) rfl ?_
        exact ⟨_, rfl, by rw [HNP.out, HPR.out, HEN.out]; exact HO.out, xw.trans hx⟩
end Go.Proofs.Ytcdnjhcddbkciaa
