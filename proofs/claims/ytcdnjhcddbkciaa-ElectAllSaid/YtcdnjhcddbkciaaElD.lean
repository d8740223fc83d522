/- The walk of Answer of layer 18's reference. -/
import Derived.Test.YtcdnjhcddbkciaaElC
namespace Go.Proofs.Ytcdnjhcddbkciaa
open Go.RowKit

set_option maxRecDepth 100000 in
set_option maxHeartbeats 6400000 in
theorem ref18_Answer (s : SV) (x : LV) (w : World) (hs : s.Ok w) (hx : x.Ok w) (hn : s.n ≤ 1000) (hm : x.n ≤ 1000) :
    Calls Try.prog 44 #[s.val, x.val] w (AnsPost s x w) := by
  have hM := fun w' (h : Ext w w') => ref16_May x w' (hx.ext h) hm
  have hF := fun w' (h : Ext w w') => ref17_Fresh s.A s.n s.c s.l x.a x.b w' (hs.es.ext h) hn
  have hN := fun w' => ref18_Newer s x.term w'
  have hcs := answer_cases s x
  have hP := fun (w' : World) (e : Ending) (v : Value) (L : List RV) (g : Bool) (k : Nat) (ha : answerL s x = (L, g, k)) => AnsPost.mk_ (s := s) (x := x) (w := w) (w' := w') (e := e) (v := v) ha
  have hI := hs.u1
  generalize AnsPost s x w = POST at *
  have HP := Lib.hid hP; clear hP
  have HF := Lib.hid hF; clear hF
  have HN := Lib.hid hN; clear hN
  have HM := Lib.hid hM; clear hM
  clear hs hx
  obtain ⟨floor, term, vote, A, n, c, l⟩ := s
  obtain ⟨kind, src, dst, xt, la, lb, lc, bin, ok, B, m, d, l2⟩ := x
  unfold SV.val LV.val
  unfold SV.val at HN
  unfold LV.val at HM
  dsimp only at HF HM HN hcs hn hm hI ⊢
  have hB1 : Blk ((w.alloc (.cells #[.int .i64 floor, .int .i64 term, .int .i64 vote, .slice A n c] 45)).alloc (.cells #[.int .i64 kind, .int .i64 src, .int .i64 dst, .int .i64 xt, .int .i64 la, .int .i64 lb, .int .i64 lc, .int .i64 bin, .bool ok, .slice B m d] 47)) w.heap.size 45 [.int .i64 floor, .int .i64 term, .int .i64 vote, .slice A n c] := (Blk.new w _ [.int .i64 floor, .int .i64 term, .int .i64 vote, .slice A n c]).alloc _
  have hB2 : Blk ((w.alloc (.cells #[.int .i64 floor, .int .i64 term, .int .i64 vote, .slice A n c] 45)).alloc (.cells #[.int .i64 kind, .int .i64 src, .int .i64 dst, .int .i64 xt, .int .i64 la, .int .i64 lb, .int .i64 lc, .int .i64 bin, .bool ok, .slice B m d] 47)) (w.heap.size + 1) 47 [.int .i64 kind, .int .i64 src, .int .i64 dst, .int .i64 xt, .int .i64 la, .int .i64 lb, .int .i64 lc, .int .i64 bin, .bool ok, .slice B m d] := by
    have := Blk.new (w.alloc (.cells #[.int .i64 floor, .int .i64 term, .int .i64 vote, .slice A n c] 45)) 47 [.int .i64 kind, .int .i64 src, .int .i64 dst, .int .i64 xt, .int .i64 la, .int .i64 lb, .int .i64 lc, .int .i64 bin, .bool ok, .slice B m d]
    simpa using this
  have hx0 : Ext w ((w.alloc (.cells #[.int .i64 floor, .int .i64 term, .int .i64 vote, .slice A n c] 45)).alloc (.cells #[.int .i64 kind, .int .i64 src, .int .i64 dst, .int .i64 xt, .int .i64 la, .int .i64 lb, .int .i64 lc, .int .i64 bin, .bool ok, .slice B m d] 47)) := ((Ext.refl w).alloc _).alloc _
  have HM' := HM.out _ hx0
  clear HM
  rcases hcs with ⟨hmay, ha⟩ | ⟨hmay, hk, ha⟩ | ⟨hmay, rfl, hs0, hs4, hcs⟩
  · rw [mayR_f hmay] at HM'
    have HA' := Lib.hid ha
    clear hmay ha HF HN hI
    go_enter Try.func44, Try.ntmps44
    go_wp2_with fail
    refine HM'.mono ?_
    clear HM'
    rintro e w1 ⟨rfl, x1⟩
    have x1' := hx0.trans x1
    replace hB1 := hB1.ext x1
    replace hB2 := hB2.ext x1
    have hz := x1.size
    simp only [World.size_alloc] at hz
    have hlt1 : w.heap.size + 1 < w1.heap.size := by omega
    have hlt0 : w.heap.size < w1.heap.size := by omega
    have s0 := hB1.cell 0
    have s1 := hB1.cell 1
    have s2 := hB1.cell 2
    have s3 := hB1.cell 3
    have y0 := hB2.cell 0
    have y1 := hB2.cell 1
    have y2 := hB2.cell 2
    have y3 := hB2.cell 3
    have y4 := hB2.cell 4
    have y5 := hB2.cell 5
    have y6 := hB2.cell 6
    have y7 := hB2.cell 7
    have y8 := hB2.cell 8
    have y9 := hB2.cell 9
    simp only [List.getElem?_cons_zero, List.getElem?_cons_succ] at s0 s1 s2 s3 y0 y1 y2 y3 y4 y5 y6 y7 y8 y9
    clear hB1 hB2 x1 hx0 hz
    go_wp2
    go_ret3
    exact HP.out _ _ _ _ _ _ HA'.out rfl (World.ownsRow_nil _ _ _ _) x1'
  · rw [mayR_t hmay] at HM'
    have HA' := Lib.hid ha
    have ek := bne_t hk
    have ek2 := beq_f hk
    have ek3 := dec_f hk
    clear hmay ha HF HN hI hk
    go_enter Try.func44, Try.ntmps44
    go_wp2_with fail
    refine HM'.mono ?_
    clear HM'
    rintro e w1 ⟨rfl, x1⟩
    have x1' := hx0.trans x1
    replace hB1 := hB1.ext x1
    replace hB2 := hB2.ext x1
    have hz := x1.size
    simp only [World.size_alloc] at hz
    have hlt1 : w.heap.size + 1 < w1.heap.size := by omega
    have hlt0 : w.heap.size < w1.heap.size := by omega
    have s0 := hB1.cell 0
    have s1 := hB1.cell 1
    have s2 := hB1.cell 2
    have s3 := hB1.cell 3
    have y0 := hB2.cell 0
    have y1 := hB2.cell 1
    have y2 := hB2.cell 2
    have y3 := hB2.cell 3
    have y4 := hB2.cell 4
    have y5 := hB2.cell 5
    have y6 := hB2.cell 6
    have y7 := hB2.cell 7
    have y8 := hB2.cell 8
    have y9 := hB2.cell 9
    simp only [List.getElem?_cons_zero, List.getElem?_cons_succ] at s0 s1 s2 s3 y0 y1 y2 y3 y4 y5 y6 y7 y8 y9
    clear hB1 hB2 x1 hx0 hz
    go_wp2
    go_ret3
    exact HP.out _ _ _ _ _ _ HA'.out rfl (World.ownsRow_nil _ _ _ _) x1'
  · rw [mayR_t hmay] at HM'
    clear hmay hI
    have e1 : IntKind.i64.wrap (src + 1) = src + 1 := IntWalk.i64_in _ ⟨by omega, by omega⟩
    have HN' : ∀ L, newerL term xt = L → ∀ w', Calls Try.prog 47 #[.agg #[.int .i64 floor, .int .i64 term, .int .i64 vote, .slice A n c], .int .i64 xt] w' fun e w'' => ∃ v, e = .returned v ∧ w''.ownsRow w'.heap.size 70 4 v L.length (recOf L) ∧ Ext w' w'' := by
      rintro L rfl w'
      exact HN.out w'
    clear HN
    rcases hcs with ⟨h1, ha⟩ | ⟨rfl, rfl, hf, ha⟩ | ⟨rfl, rfl, hf, ha⟩ | ⟨rfl, rfl, hf, ha⟩ | ⟨rfl, rfl, hf, ha⟩ | ⟨rfl, h2, h3, ha⟩ | ⟨h1, hf, ha⟩ | ⟨h1, hf, ha⟩
    · have HA' := Lib.hid ha
      have j0 := dec_f (show ¬ term < xt by omega)
      have k1 := beq_f (show xt ≠ term by omega)
      have j1 := dec_f (show ¬ xt = term by omega)
      clear ha
      go_enter Try.func44, Try.ntmps44
      go_wp2_with fail
      refine HM'.mono ?_
      clear HM'
      rintro e w1 ⟨rfl, x1⟩
      have x1' := hx0.trans x1
      replace hB1 := hB1.ext x1
      replace hB2 := hB2.ext x1
      have hz := x1.size
      simp only [World.size_alloc] at hz
      have hlt1 : w.heap.size + 1 < w1.heap.size := by omega
      have hlt0 : w.heap.size < w1.heap.size := by omega
      have s0 := hB1.cell 0
      have s1 := hB1.cell 1
      have s2 := hB1.cell 2
      have s3 := hB1.cell 3
      have y0 := hB2.cell 0
      have y1 := hB2.cell 1
      have y2 := hB2.cell 2
      have y3 := hB2.cell 3
      have y4 := hB2.cell 4
      have y5 := hB2.cell 5
      have y6 := hB2.cell 6
      have y7 := hB2.cell 7
      have y8 := hB2.cell 8
      have y9 := hB2.cell 9
      simp only [List.getElem?_cons_zero, List.getElem?_cons_succ] at s0 s1 s2 s3 y0 y1 y2 y3 y4 y5 y6 y7 y8 y9
      clear hB1 hB2 x1 hx0 hz
      go_wp2_with fail
      refine (HF.out _ x1').mono ?_
      rintro e w3 ⟨rfl, x3⟩
      generalize freshB l la lb = fr at *
      skip
      have x3' := x1'.trans x3
      have q3 := x3
      replace s0 := q3.cell s0
      replace s1 := q3.cell s1
      replace s2 := q3.cell s2
      replace s3 := q3.cell s3
      replace y0 := q3.cell y0
      replace y1 := q3.cell y1
      replace y2 := q3.cell y2
      replace y3 := q3.cell y3
      replace y4 := q3.cell y4
      replace y5 := q3.cell y5
      replace y6 := q3.cell y6
      replace y7 := q3.cell y7
      replace y8 := q3.cell y8
      replace y9 := q3.cell y9
      have hlt3 := World.block_lt_of_cell? _ _ y0
      have hlt4 := World.block_lt_of_cell? _ _ s0
      clear q3 x3 hlt1 hlt0
      rcases fr with _ | _
      all_goals
        go_wp2_with fail
        refine (HN' [] (by simp [newerL]; omega) _).mono ?_
        rintro e w5 ⟨v5, rfl, hown5, x5⟩
        go_wp2
        go_ret3
        exact HP.out _ _ _ _ _ _ HA'.out rfl (own_base hown5 (Below.size x3')) (x3'.trans x5)
    · have HA' := Lib.hid ha
      skip
      clear ha
      go_enter Try.func44, Try.ntmps44
      go_wp2_with fail
      refine HM'.mono ?_
      clear HM'
      rintro e w1 ⟨rfl, x1⟩
      have x1' := hx0.trans x1
      replace hB1 := hB1.ext x1
      replace hB2 := hB2.ext x1
      have hz := x1.size
      simp only [World.size_alloc] at hz
      have hlt1 : w.heap.size + 1 < w1.heap.size := by omega
      have hlt0 : w.heap.size < w1.heap.size := by omega
      have s0 := hB1.cell 0
      have s1 := hB1.cell 1
      have s2 := hB1.cell 2
      have s3 := hB1.cell 3
      have y0 := hB2.cell 0
      have y1 := hB2.cell 1
      have y2 := hB2.cell 2
      have y3 := hB2.cell 3
      have y4 := hB2.cell 4
      have y5 := hB2.cell 5
      have y6 := hB2.cell 6
      have y7 := hB2.cell 7
      have y8 := hB2.cell 8
      have y9 := hB2.cell 9
      simp only [List.getElem?_cons_zero, List.getElem?_cons_succ] at s0 s1 s2 s3 y0 y1 y2 y3 y4 y5 y6 y7 y8 y9
      clear hB1 hB2 x1 hx0 hz
      go_wp2_with fail
      refine (HF.out _ x1').mono ?_
      rintro e w3 ⟨rfl, x3⟩
      rw [hf]
      have x3' := x1'.trans x3
      have q3 := x3
      replace s0 := q3.cell s0
      replace s1 := q3.cell s1
      replace s2 := q3.cell s2
      replace s3 := q3.cell s3
      replace y0 := q3.cell y0
      replace y1 := q3.cell y1
      replace y2 := q3.cell y2
      replace y3 := q3.cell y3
      replace y4 := q3.cell y4
      replace y5 := q3.cell y5
      replace y6 := q3.cell y6
      replace y7 := q3.cell y7
      replace y8 := q3.cell y8
      replace y9 := q3.cell y9
      have hlt3 := World.block_lt_of_cell? _ _ y0
      have hlt4 := World.block_lt_of_cell? _ _ s0
      clear q3 x3 hlt1 hlt0
      have H := Lib.hid (fun w k hk => blk_own w #[.int .i64 2, .int .i64 xt, .int .i64 (src + 1), .slice none 0 0] 70 4 1 rfl (by omega) (Nat.le_refl _) k hk)
      go_wp2
      go_ret3
      exact HP.out _ _ _ _ _ _ HA'.out rfl (own_base (H.out _ _ rfl) (Below.size x3')) (x3'.alloc _)
    · have HA' := Lib.hid ha
      skip
      clear ha
      go_enter Try.func44, Try.ntmps44
      go_wp2_with fail
      refine HM'.mono ?_
      clear HM'
      rintro e w1 ⟨rfl, x1⟩
      have x1' := hx0.trans x1
      replace hB1 := hB1.ext x1
      replace hB2 := hB2.ext x1
      have hz := x1.size
      simp only [World.size_alloc] at hz
      have hlt1 : w.heap.size + 1 < w1.heap.size := by omega
      have hlt0 : w.heap.size < w1.heap.size := by omega
      have s0 := hB1.cell 0
      have s1 := hB1.cell 1
      have s2 := hB1.cell 2
      have s3 := hB1.cell 3
      have y0 := hB2.cell 0
      have y1 := hB2.cell 1
      have y2 := hB2.cell 2
      have y3 := hB2.cell 3
      have y4 := hB2.cell 4
      have y5 := hB2.cell 5
      have y6 := hB2.cell 6
      have y7 := hB2.cell 7
      have y8 := hB2.cell 8
      have y9 := hB2.cell 9
      simp only [List.getElem?_cons_zero, List.getElem?_cons_succ] at s0 s1 s2 s3 y0 y1 y2 y3 y4 y5 y6 y7 y8 y9
      clear hB1 hB2 x1 hx0 hz
      go_wp2_with fail
      refine (HF.out _ x1').mono ?_
      rintro e w3 ⟨rfl, x3⟩
      rw [hf]
      have x3' := x1'.trans x3
      have q3 := x3
      replace s0 := q3.cell s0
      replace s1 := q3.cell s1
      replace s2 := q3.cell s2
      replace s3 := q3.cell s3
      replace y0 := q3.cell y0
      replace y1 := q3.cell y1
      replace y2 := q3.cell y2
      replace y3 := q3.cell y3
      replace y4 := q3.cell y4
      replace y5 := q3.cell y5
      replace y6 := q3.cell y6
      replace y7 := q3.cell y7
      replace y8 := q3.cell y8
      replace y9 := q3.cell y9
      have hlt3 := World.block_lt_of_cell? _ _ y0
      have hlt4 := World.block_lt_of_cell? _ _ s0
      clear q3 x3 hlt1 hlt0
      go_wp2_with fail
      refine (HN' [] (by simp [newerL]) _).mono ?_
      rintro e w5 ⟨v5, rfl, hown5, x5⟩
      go_wp2
      go_ret3
      exact HP.out _ _ _ _ _ _ HA'.out rfl (own_base hown5 (Below.size x3')) (x3'.trans x5)
    · have HA' := Lib.hid ha
      have k4 := beq_f (show src + 1 ≠ 0 by omega)
      have j4 := dec_f (show ¬ src + 1 = 0 by omega)
      clear ha
      go_enter Try.func44, Try.ntmps44
      go_wp2_with fail
      refine HM'.mono ?_
      clear HM'
      rintro e w1 ⟨rfl, x1⟩
      have x1' := hx0.trans x1
      replace hB1 := hB1.ext x1
      replace hB2 := hB2.ext x1
      have hz := x1.size
      simp only [World.size_alloc] at hz
      have hlt1 : w.heap.size + 1 < w1.heap.size := by omega
      have hlt0 : w.heap.size < w1.heap.size := by omega
      have s0 := hB1.cell 0
      have s1 := hB1.cell 1
      have s2 := hB1.cell 2
      have s3 := hB1.cell 3
      have y0 := hB2.cell 0
      have y1 := hB2.cell 1
      have y2 := hB2.cell 2
      have y3 := hB2.cell 3
      have y4 := hB2.cell 4
      have y5 := hB2.cell 5
      have y6 := hB2.cell 6
      have y7 := hB2.cell 7
      have y8 := hB2.cell 8
      have y9 := hB2.cell 9
      simp only [List.getElem?_cons_zero, List.getElem?_cons_succ] at s0 s1 s2 s3 y0 y1 y2 y3 y4 y5 y6 y7 y8 y9
      clear hB1 hB2 x1 hx0 hz
      go_wp2_with fail
      refine (HF.out _ x1').mono ?_
      rintro e w3 ⟨rfl, x3⟩
      rw [hf]
      have x3' := x1'.trans x3
      have q3 := x3
      replace s0 := q3.cell s0
      replace s1 := q3.cell s1
      replace s2 := q3.cell s2
      replace s3 := q3.cell s3
      replace y0 := q3.cell y0
      replace y1 := q3.cell y1
      replace y2 := q3.cell y2
      replace y3 := q3.cell y3
      replace y4 := q3.cell y4
      replace y5 := q3.cell y5
      replace y6 := q3.cell y6
      replace y7 := q3.cell y7
      replace y8 := q3.cell y8
      replace y9 := q3.cell y9
      have hlt3 := World.block_lt_of_cell? _ _ y0
      have hlt4 := World.block_lt_of_cell? _ _ s0
      clear q3 x3 hlt1 hlt0
      go_wp2
      go_ret3
      exact HP.out _ _ _ _ _ _ HA'.out rfl (World.ownsRow_nil _ _ _ _) x3'
    · have HA' := Lib.hid ha
      have k4 := beq_f (show src + 1 ≠ 0 by omega)
      have j4 := dec_f (show ¬ src + 1 = 0 by omega)
      clear ha
      go_enter Try.func44, Try.ntmps44
      go_wp2_with fail
      refine HM'.mono ?_
      clear HM'
      rintro e w1 ⟨rfl, x1⟩
      have x1' := hx0.trans x1
      replace hB1 := hB1.ext x1
      replace hB2 := hB2.ext x1
      have hz := x1.size
      simp only [World.size_alloc] at hz
      have hlt1 : w.heap.size + 1 < w1.heap.size := by omega
      have hlt0 : w.heap.size < w1.heap.size := by omega
      have s0 := hB1.cell 0
      have s1 := hB1.cell 1
      have s2 := hB1.cell 2
      have s3 := hB1.cell 3
      have y0 := hB2.cell 0
      have y1 := hB2.cell 1
      have y2 := hB2.cell 2
      have y3 := hB2.cell 3
      have y4 := hB2.cell 4
      have y5 := hB2.cell 5
      have y6 := hB2.cell 6
      have y7 := hB2.cell 7
      have y8 := hB2.cell 8
      have y9 := hB2.cell 9
      simp only [List.getElem?_cons_zero, List.getElem?_cons_succ] at s0 s1 s2 s3 y0 y1 y2 y3 y4 y5 y6 y7 y8 y9
      clear hB1 hB2 x1 hx0 hz
      go_wp2_with fail
      refine (HF.out _ x1').mono ?_
      rintro e w3 ⟨rfl, x3⟩
      rw [hf]
      have x3' := x1'.trans x3
      have q3 := x3
      replace s0 := q3.cell s0
      replace s1 := q3.cell s1
      replace s2 := q3.cell s2
      replace s3 := q3.cell s3
      replace y0 := q3.cell y0
      replace y1 := q3.cell y1
      replace y2 := q3.cell y2
      replace y3 := q3.cell y3
      replace y4 := q3.cell y4
      replace y5 := q3.cell y5
      replace y6 := q3.cell y6
      replace y7 := q3.cell y7
      replace y8 := q3.cell y8
      replace y9 := q3.cell y9
      have hlt3 := World.block_lt_of_cell? _ _ y0
      have hlt4 := World.block_lt_of_cell? _ _ s0
      clear q3 x3 hlt1 hlt0
      go_wp2_with fail
      refine (HN' [] (by simp [newerL]) _).mono ?_
      rintro e w5 ⟨v5, rfl, hown5, x5⟩
      go_wp2
      go_ret3
      exact HP.out _ _ _ _ _ _ HA'.out rfl (own_base hown5 (Below.size x3')) (x3'.trans x5)
    · have HA' := Lib.hid ha
      have k2 := beq_f h2
      have k3 := beq_f h3
      have j2 := dec_f h2
      have j3 := dec_f h3
      clear h2 h3
      clear ha
      go_enter Try.func44, Try.ntmps44
      go_wp2_with fail
      refine HM'.mono ?_
      clear HM'
      rintro e w1 ⟨rfl, x1⟩
      have x1' := hx0.trans x1
      replace hB1 := hB1.ext x1
      replace hB2 := hB2.ext x1
      have hz := x1.size
      simp only [World.size_alloc] at hz
      have hlt1 : w.heap.size + 1 < w1.heap.size := by omega
      have hlt0 : w.heap.size < w1.heap.size := by omega
      have s0 := hB1.cell 0
      have s1 := hB1.cell 1
      have s2 := hB1.cell 2
      have s3 := hB1.cell 3
      have y0 := hB2.cell 0
      have y1 := hB2.cell 1
      have y2 := hB2.cell 2
      have y3 := hB2.cell 3
      have y4 := hB2.cell 4
      have y5 := hB2.cell 5
      have y6 := hB2.cell 6
      have y7 := hB2.cell 7
      have y8 := hB2.cell 8
      have y9 := hB2.cell 9
      simp only [List.getElem?_cons_zero, List.getElem?_cons_succ] at s0 s1 s2 s3 y0 y1 y2 y3 y4 y5 y6 y7 y8 y9
      clear hB1 hB2 x1 hx0 hz
      go_wp2_with fail
      refine (HF.out _ x1').mono ?_
      rintro e w3 ⟨rfl, x3⟩
      generalize freshB l la lb = fr at *
      have x3' := x1'.trans x3
      have q3 := x3
      replace s0 := q3.cell s0
      replace s1 := q3.cell s1
      replace s2 := q3.cell s2
      replace s3 := q3.cell s3
      replace y0 := q3.cell y0
      replace y1 := q3.cell y1
      replace y2 := q3.cell y2
      replace y3 := q3.cell y3
      replace y4 := q3.cell y4
      replace y5 := q3.cell y5
      replace y6 := q3.cell y6
      replace y7 := q3.cell y7
      replace y8 := q3.cell y8
      replace y9 := q3.cell y9
      have hlt3 := World.block_lt_of_cell? _ _ y0
      have hlt4 := World.block_lt_of_cell? _ _ s0
      clear q3 x3 hlt1 hlt0
      rcases fr with _ | _
      all_goals
        go_wp2_with fail
        refine (HN' [] (by simp [newerL]) _).mono ?_
        rintro e w5 ⟨v5, rfl, hown5, x5⟩
        go_wp2
        go_ret3
        exact HP.out _ _ _ _ _ _ HA'.out rfl (own_base hown5 (Below.size x3')) (x3'.trans x5)
    · have HA' := Lib.hid ha
      have j0 := dec_f (show ¬ xt < term by omega)
      have k1 := beq_f (show xt ≠ term by omega)
      have j1 := dec_f (show ¬ xt = term by omega)
      clear ha
      go_enter Try.func44, Try.ntmps44
      go_wp2_with fail
      refine HM'.mono ?_
      clear HM'
      rintro e w1 ⟨rfl, x1⟩
      have x1' := hx0.trans x1
      replace hB1 := hB1.ext x1
      replace hB2 := hB2.ext x1
      have hz := x1.size
      simp only [World.size_alloc] at hz
      have hlt1 : w.heap.size + 1 < w1.heap.size := by omega
      have hlt0 : w.heap.size < w1.heap.size := by omega
      have s0 := hB1.cell 0
      have s1 := hB1.cell 1
      have s2 := hB1.cell 2
      have s3 := hB1.cell 3
      have y0 := hB2.cell 0
      have y1 := hB2.cell 1
      have y2 := hB2.cell 2
      have y3 := hB2.cell 3
      have y4 := hB2.cell 4
      have y5 := hB2.cell 5
      have y6 := hB2.cell 6
      have y7 := hB2.cell 7
      have y8 := hB2.cell 8
      have y9 := hB2.cell 9
      simp only [List.getElem?_cons_zero, List.getElem?_cons_succ] at s0 s1 s2 s3 y0 y1 y2 y3 y4 y5 y6 y7 y8 y9
      clear hB1 hB2 x1 hx0 hz
      go_wp2_with fail
      refine (HF.out _ x1').mono ?_
      rintro e w3 ⟨rfl, x3⟩
      rw [hf]
      have x3' := x1'.trans x3
      have q3 := x3
      replace s0 := q3.cell s0
      replace s1 := q3.cell s1
      replace s2 := q3.cell s2
      replace s3 := q3.cell s3
      replace y0 := q3.cell y0
      replace y1 := q3.cell y1
      replace y2 := q3.cell y2
      replace y3 := q3.cell y3
      replace y4 := q3.cell y4
      replace y5 := q3.cell y5
      replace y6 := q3.cell y6
      replace y7 := q3.cell y7
      replace y8 := q3.cell y8
      replace y9 := q3.cell y9
      have hlt3 := World.block_lt_of_cell? _ _ y0
      have hlt4 := World.block_lt_of_cell? _ _ s0
      clear q3 x3 hlt1 hlt0
      have H := Lib.hid (fun w k hk => blk_own w #[.int .i64 2, .int .i64 xt, .int .i64 (src + 1), .slice none 0 0] 70 4 1 rfl (by omega) (Nat.le_refl _) k hk)
      go_wp2
      go_ret3
      exact HP.out _ _ _ _ _ _ HA'.out rfl (own_base (H.out _ _ rfl) (Below.size x3')) (x3'.alloc _)
    · have HA' := Lib.hid ha
      have j0 := dec_f (show ¬ xt < term by omega)
      have k1 := beq_f (show xt ≠ term by omega)
      have j1 := dec_f (show ¬ xt = term by omega)
      clear ha
      go_enter Try.func44, Try.ntmps44
      go_wp2_with fail
      refine HM'.mono ?_
      clear HM'
      rintro e w1 ⟨rfl, x1⟩
      have x1' := hx0.trans x1
      replace hB1 := hB1.ext x1
      replace hB2 := hB2.ext x1
      have hz := x1.size
      simp only [World.size_alloc] at hz
      have hlt1 : w.heap.size + 1 < w1.heap.size := by omega
      have hlt0 : w.heap.size < w1.heap.size := by omega
      have s0 := hB1.cell 0
      have s1 := hB1.cell 1
      have s2 := hB1.cell 2
      have s3 := hB1.cell 3
      have y0 := hB2.cell 0
      have y1 := hB2.cell 1
      have y2 := hB2.cell 2
      have y3 := hB2.cell 3
      have y4 := hB2.cell 4
      have y5 := hB2.cell 5
      have y6 := hB2.cell 6
      have y7 := hB2.cell 7
      have y8 := hB2.cell 8
      have y9 := hB2.cell 9
      simp only [List.getElem?_cons_zero, List.getElem?_cons_succ] at s0 s1 s2 s3 y0 y1 y2 y3 y4 y5 y6 y7 y8 y9
      clear hB1 hB2 x1 hx0 hz
      go_wp2_with fail
      refine (HF.out _ x1').mono ?_
      rintro e w3 ⟨rfl, x3⟩
      rw [hf]
      have x3' := x1'.trans x3
      have q3 := x3
      replace s0 := q3.cell s0
      replace s1 := q3.cell s1
      replace s2 := q3.cell s2
      replace s3 := q3.cell s3
      replace y0 := q3.cell y0
      replace y1 := q3.cell y1
      replace y2 := q3.cell y2
      replace y3 := q3.cell y3
      replace y4 := q3.cell y4
      replace y5 := q3.cell y5
      replace y6 := q3.cell y6
      replace y7 := q3.cell y7
      replace y8 := q3.cell y8
      replace y9 := q3.cell y9
      have hlt3 := World.block_lt_of_cell? _ _ y0
      have hlt4 := World.block_lt_of_cell? _ _ s0
      clear q3 x3 hlt1 hlt0
      go_wp2_with fail
      refine (HN' [voteR xt 0] (by simp [newerL]; omega) _).mono ?_
      rintro e w5 ⟨v5, rfl, hown5, x5⟩
      go_wp2
      go_ret3
      exact HP.out _ _ _ _ _ _ HA'.out rfl (own_base hown5 (Below.size x3')) (x3'.trans x5)
end Go.Proofs.Ytcdnjhcddbkciaa
