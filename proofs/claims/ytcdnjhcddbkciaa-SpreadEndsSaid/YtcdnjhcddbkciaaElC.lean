/- The walks of Answer of layer 18. -/
import Derived.Test.YtcdnjhcddbkciaaElA
import Derived.Test.YtcdnjhcddbkciaaLetR
namespace Go.Proofs.Ytcdnjhcddbkciaa
open Go.RowKit

/-- is a node's vote free for who asks -/
def freeB (s : SV) (x : LV) : Bool := decide (s.term < x.term) || (decide (x.term = s.term) && (decide (s.vote = 0) || decide (s.vote = x.src + 1)))
/-- what is saved to an Ask, whether the vote is given, and an error's number -/
def answerL (s : SV) (x : LV) : List RV × Bool × Nat :=
  if mayB x = false ∨ x.kind ≠ 1 then ([], false, 1)
  else if (freshB s.l x.a x.b && freeB s x) = true then (if x.term = s.term ∧ s.vote = x.src + 1 then ([], true, 0) else ([voteR x.term (x.src + 1)], true, 0))
  else (newerL s.term x.term, false, 0)
/-- what a walk of Answer leaves -/
def AnsPost (s : SV) (x : LV) (w : World) (e : Ending) (w' : World) : Prop :=
  ∃ v, e = .returned (.tuple #[v, .bool (answerL s x).2.1, .int .i64 (answerL s x).2.2]) ∧ w'.ownsRow w.heap.size 70 4 v (answerL s x).1.length (recOf (answerL s x).1) ∧ Ext w w'
theorem AnsPost.mk_ {s : SV} {x : LV} {w w' : World} {e : Ending} {v : Value} {L : List RV} {g : Bool} {k : Nat} (ha : answerL s x = (L, g, k)) (he : e = .returned (.tuple #[v, .bool g, .int .i64 k])) (ho : w'.ownsRow w.heap.size 70 4 v L.length (recOf L)) (hx : Ext w w') : AnsPost s x w e w' := by
  refine ⟨v, ?_, ?_, hx⟩
  · rw [ha]; exact he
  · rw [ha]; exact ho

theorem answer_cases (s : SV) (x : LV) : (mayB x = false ∧ answerL s x = ([], false, 1)) ∨
    (mayB x = true ∧ x.kind ≠ 1 ∧ answerL s x = ([], false, 1)) ∨
    (mayB x = true ∧ x.kind = 1 ∧ 0 ≤ x.src ∧ x.src ≤ 4 ∧ (
      (x.term < s.term ∧ answerL s x = ([], false, 0)) ∨
      (x.term = s.term ∧ s.vote = 0 ∧ freshB s.l x.a x.b = true ∧ answerL s x = ([voteR x.term (x.src + 1)], true, 0)) ∨
      (x.term = s.term ∧ s.vote = 0 ∧ freshB s.l x.a x.b = false ∧ answerL s x = ([], false, 0)) ∨
      (x.term = s.term ∧ s.vote = x.src + 1 ∧ freshB s.l x.a x.b = true ∧ answerL s x = ([], true, 0)) ∨
      (x.term = s.term ∧ s.vote = x.src + 1 ∧ freshB s.l x.a x.b = false ∧ answerL s x = ([], false, 0)) ∨
      (x.term = s.term ∧ s.vote ≠ 0 ∧ s.vote ≠ x.src + 1 ∧ answerL s x = ([], false, 0)) ∨
      (s.term < x.term ∧ freshB s.l x.a x.b = true ∧ answerL s x = ([voteR x.term (x.src + 1)], true, 0)) ∨
      (s.term < x.term ∧ freshB s.l x.a x.b = false ∧ answerL s x = ([voteR x.term 0], false, 0)))) := by
  rcases hm : mayB x with _ | _
  · exact .inl ⟨rfl, by simp [answerL, hm]⟩
  · by_cases hk : x.kind = 1
    · right; right
      have hsrc : inB x.src 0 4 = true := by
        unfold mayB at hm
        simp only [Bool.and_eq_true] at hm
        exact hm.1.1.1.1.1.1.1.1.1.1.2
      rw [inB_t] at hsrc
      refine ⟨rfl, hk, hsrc.1, hsrc.2, ?_⟩
      unfold answerL freeB
      rw [if_neg (by rw [hm]; simp [hk])]
      rcases Int.lt_trichotomy x.term s.term with h | h | h
      · exact .inl ⟨h, by rw [if_neg (by simp; omega)]; simp [newerL]; omega⟩
      · by_cases hv : s.vote = 0
        · rcases hf : freshB s.l x.a x.b with _ | _
          · exact .inr (.inr (.inl ⟨h, hv, rfl, by simp [newerL, h]⟩))
          · exact .inr (.inl ⟨h, hv, rfl, by rw [if_pos (by simp [h, hv]), if_neg (by omega)]⟩)
        · by_cases hv2 : s.vote = x.src + 1
          · rcases hf : freshB s.l x.a x.b with _ | _
            · exact .inr (.inr (.inr (.inr (.inl ⟨h, hv2, rfl, by simp [newerL, h]⟩))))
            · exact .inr (.inr (.inr (.inl ⟨h, hv2, rfl, by rw [if_pos (by simp [h, hv2]), if_pos ⟨h, hv2⟩]⟩)))
          · exact .inr (.inr (.inr (.inr (.inr (.inl ⟨h, hv, hv2, by rw [if_neg (by simp [h, hv, hv2])]; simp [newerL, h]⟩)))))
      · rcases hf : freshB s.l x.a x.b with _ | _
        · exact .inr (.inr (.inr (.inr (.inr (.inr (.inr ⟨h, rfl, by simp [newerL]; omega⟩))))))
        · exact .inr (.inr (.inr (.inr (.inr (.inr (.inl ⟨h, rfl, by rw [if_pos (by simp [h]), if_neg (by omega)]⟩))))))
    · exact .inr (.inl ⟨rfl, hk, by unfold answerL; rw [if_pos (.inr hk)]⟩)

set_option maxRecDepth 100000 in
set_option maxHeartbeats 800000 in
theorem answer_free (bx bs bw : Nat) (xt st vote who : Int) (w : World) (h1 : w.cell? ⟨bx, 3, none⟩ = some (.int .i64 xt)) (h2 : w.cell? ⟨bs, 1, none⟩ = some (.int .i64 st)) (h3 : w.cell? ⟨bs, 2, none⟩ = some (.int .i64 vote)) (h4 : w.cell? ⟨bw, 0, none⟩ = some (.int .i64 who)) (b : Bool)
    (hb : b = (decide (st < xt) || decide (vote = 0) || decide (vote = who))) :
    Calls Try.prog 64 #[.pointer (some ⟨bx, 0, none⟩), .pointer (some ⟨bs, 0, none⟩), .pointer (some ⟨bw, 0, none⟩)] w fun e w' => e = .returned (.bool b) ∧ w = w' := by
  by_cases g1 : st < xt
  · obtain rfl : b = true := by simp [hb, g1]
    clear hb
    go_enter Try.func64, Try.ntmps64
    go_wp2
    go_ret
    exact ⟨rfl, rfl⟩
  · by_cases g2 : vote = 0
    · subst g2
      obtain rfl : b = true := by simp [hb]
      clear hb
      go_enter Try.func64, Try.ntmps64
      go_wp2
      go_ret
      exact ⟨rfl, rfl⟩
    · by_cases g3 : vote = who
      · subst g3
        obtain rfl : b = true := by simp [hb]
        have e2 := beq_f g2
        have d2 := dec_f g2
        clear hb g2
        go_enter Try.func64, Try.ntmps64
        go_wp2
        go_ret
        exact ⟨rfl, rfl⟩
      · obtain rfl : b = false := by simp [hb, g1, g2, g3]
        have e2 := beq_f g2
        have e3 := beq_f g3
        have d2 := dec_f g2
        have d3 := dec_f g3
        clear hb g2 g3
        go_enter Try.func64, Try.ntmps64
        go_wp2
        go_ret
        exact ⟨rfl, rfl⟩

set_option maxRecDepth 100000 in
set_option maxHeartbeats 6400000 in
theorem elect_Answer (s : SV) (x : LV) (w : World) (hs : s.Ok w) (hx : x.Ok w) (hn : s.n ≤ 1000) (hm : x.n ≤ 1000) :
    Calls Try.prog 39 #[s.val, x.val] w (AnsPost s x w) := by
  have hM := fun w' (h : Ext w w') => letter_May x w' (hx.ext h) (Nat.le_trans hm (by decide))
  have hF := fun w' (h : Ext w w') => logs_Fresh s.A s.n s.c s.l x.a x.b w' (hs.es.ext h) hn
  have hN := fun w' => elect_Newer s x.term w'
  have hcs := answer_cases s x
  have hP := fun (w' : World) (e : Ending) (v : Value) (L : List RV) (g : Bool) (k : Nat) (ha : answerL s x = (L, g, k)) => AnsPost.mk_ (s := s) (x := x) (w := w) (w' := w') (e := e) (v := v) ha
  have hI := hs.u1
  generalize AnsPost s x w = POST at *
  have HP := Lib.hid hP; clear hP
  have HF := Lib.hid hF; clear hF
  have HN := Lib.hid hN; clear hN
  have HM := Lib.hid hM; clear hM
  clear hs hx
  obtain ⟨floor, term, vote, A, n, c, l⟩ := s
  obtain ⟨kind, src, dst, xt, la, lb, lc, bin, ok, B, m, d, l2⟩ := x
  unfold SV.val LV.val
  unfold SV.val at HN
  unfold LV.val at HM
  dsimp only at HF HM HN hcs hn hm hI ⊢
  have hB1 : Blk ((w.alloc (.cells #[.int .i64 floor, .int .i64 term, .int .i64 vote, .slice A n c] 45)).alloc (.cells #[.int .i64 kind, .int .i64 src, .int .i64 dst, .int .i64 xt, .int .i64 la, .int .i64 lb, .int .i64 lc, .int .i64 bin, .bool ok, .slice B m d] 47)) w.heap.size 45 [.int .i64 floor, .int .i64 term, .int .i64 vote, .slice A n c] := (Blk.new w _ [.int .i64 floor, .int .i64 term, .int .i64 vote, .slice A n c]).alloc _
  have hB2 : Blk ((w.alloc (.cells #[.int .i64 floor, .int .i64 term, .int .i64 vote, .slice A n c] 45)).alloc (.cells #[.int .i64 kind, .int .i64 src, .int .i64 dst, .int .i64 xt, .int .i64 la, .int .i64 lb, .int .i64 lc, .int .i64 bin, .bool ok, .slice B m d] 47)) (w.heap.size + 1) 47 [.int .i64 kind, .int .i64 src, .int .i64 dst, .int .i64 xt, .int .i64 la, .int .i64 lb, .int .i64 lc, .int .i64 bin, .bool ok, .slice B m d] := by
    have := Blk.new (w.alloc (.cells #[.int .i64 floor, .int .i64 term, .int .i64 vote, .slice A n c] 45)) 47 [.int .i64 kind, .int .i64 src, .int .i64 dst, .int .i64 xt, .int .i64 la, .int .i64 lb, .int .i64 lc, .int .i64 bin, .bool ok, .slice B m d]
    simpa using this
  have hx0 : Ext w ((w.alloc (.cells #[.int .i64 floor, .int .i64 term, .int .i64 vote, .slice A n c] 45)).alloc (.cells #[.int .i64 kind, .int .i64 src, .int .i64 dst, .int .i64 xt, .int .i64 la, .int .i64 lb, .int .i64 lc, .int .i64 bin, .bool ok, .slice B m d] 47)) := ((Ext.refl w).alloc _).alloc _
  have HM' := HM.out _ hx0
  clear HM
  rcases hcs with ⟨hmay, ha⟩ | ⟨hmay, hk, ha⟩ | ⟨hmay, rfl, hs0, hs4, hcs⟩
  · rw [mayR_f hmay] at HM'
    have HA' := Lib.hid ha
    clear hmay ha HF HN hI
    go_enter Try.func39, Try.ntmps39
    go_wp2_with fail
    refine HM'.mono ?_
    clear HM'
    rintro e w1 ⟨rfl, x1⟩
    have x1' := hx0.trans x1
    replace hB1 := hB1.ext x1
    replace hB2 := hB2.ext x1
    have hz := x1.size
    simp only [World.size_alloc] at hz
    have hlt1 : w.heap.size + 1 < w1.heap.size := by omega
    have hlt0 : w.heap.size < w1.heap.size := by omega
    have s0 := hB1.cell 0
    have s1 := hB1.cell 1
    have s2 := hB1.cell 2
    have s3 := hB1.cell 3
    have y0 := hB2.cell 0
    have y1 := hB2.cell 1
    have y2 := hB2.cell 2
    have y3 := hB2.cell 3
    have y4 := hB2.cell 4
    have y5 := hB2.cell 5
    have y6 := hB2.cell 6
    have y7 := hB2.cell 7
    have y8 := hB2.cell 8
    have y9 := hB2.cell 9
    simp only [List.getElem?_cons_zero, List.getElem?_cons_succ] at s0 s1 s2 s3 y0 y1 y2 y3 y4 y5 y6 y7 y8 y9
    clear hB1 hB2 x1 hx0 hz
    go_wp2
    go_ret3
    exact HP.out _ _ _ _ _ _ HA'.out rfl (World.ownsRow_nil _ _ _ _) x1'
  · rw [mayR_t hmay] at HM'
    have HA' := Lib.hid ha
    have ek := bne_t hk
    have ek2 := beq_f hk
    have ek3 := dec_f hk
    clear hmay ha HF HN hI hk
    go_enter Try.func39, Try.ntmps39
    go_wp2_with fail
    refine HM'.mono ?_
    clear HM'
    rintro e w1 ⟨rfl, x1⟩
    have x1' := hx0.trans x1
    replace hB1 := hB1.ext x1
    replace hB2 := hB2.ext x1
    have hz := x1.size
    simp only [World.size_alloc] at hz
    have hlt1 : w.heap.size + 1 < w1.heap.size := by omega
    have hlt0 : w.heap.size < w1.heap.size := by omega
    have s0 := hB1.cell 0
    have s1 := hB1.cell 1
    have s2 := hB1.cell 2
    have s3 := hB1.cell 3
    have y0 := hB2.cell 0
    have y1 := hB2.cell 1
    have y2 := hB2.cell 2
    have y3 := hB2.cell 3
    have y4 := hB2.cell 4
    have y5 := hB2.cell 5
    have y6 := hB2.cell 6
    have y7 := hB2.cell 7
    have y8 := hB2.cell 8
    have y9 := hB2.cell 9
    simp only [List.getElem?_cons_zero, List.getElem?_cons_succ] at s0 s1 s2 s3 y0 y1 y2 y3 y4 y5 y6 y7 y8 y9
    clear hB1 hB2 x1 hx0 hz
    go_wp2
    go_ret3
    exact HP.out _ _ _ _ _ _ HA'.out rfl (World.ownsRow_nil _ _ _ _) x1'
  · rw [mayR_t hmay] at HM'
    clear hmay hI
    have e1 : IntKind.i64.wrap (src + 1) = src + 1 := IntWalk.i64_in _ ⟨by omega, by omega⟩
    have HN' : ∀ L, newerL term xt = L → ∀ w', Calls Try.prog 46 #[.agg #[.int .i64 floor, .int .i64 term, .int .i64 vote, .slice A n c], .int .i64 xt] w' fun e w'' => ∃ v, e = .returned v ∧ w''.ownsRow w'.heap.size 70 4 v L.length (recOf L) ∧ Ext w' w'' := by
      rintro L rfl w'
      exact HN.out w'
    clear HN
    rcases hcs with ⟨h1, ha⟩ | ⟨rfl, rfl, hf, ha⟩ | ⟨rfl, rfl, hf, ha⟩ | ⟨rfl, rfl, hf, ha⟩ | ⟨rfl, rfl, hf, ha⟩ | ⟨rfl, h2, h3, ha⟩ | ⟨h1, hf, ha⟩ | ⟨h1, hf, ha⟩
    · have HA' := Lib.hid ha
      skip
      clear ha
      go_enter Try.func39, Try.ntmps39
      go_wp2_with fail
      refine HM'.mono ?_
      clear HM'
      rintro e w1 ⟨rfl, x1⟩
      have x1' := hx0.trans x1
      replace hB1 := hB1.ext x1
      replace hB2 := hB2.ext x1
      have hz := x1.size
      simp only [World.size_alloc] at hz
      have hlt1 : w.heap.size + 1 < w1.heap.size := by omega
      have hlt0 : w.heap.size < w1.heap.size := by omega
      have s0 := hB1.cell 0
      have s1 := hB1.cell 1
      have s2 := hB1.cell 2
      have s3 := hB1.cell 3
      have y0 := hB2.cell 0
      have y1 := hB2.cell 1
      have y2 := hB2.cell 2
      have y3 := hB2.cell 3
      have y4 := hB2.cell 4
      have y5 := hB2.cell 5
      have y6 := hB2.cell 6
      have y7 := hB2.cell 7
      have y8 := hB2.cell 8
      have y9 := hB2.cell 9
      simp only [List.getElem?_cons_zero, List.getElem?_cons_succ] at s0 s1 s2 s3 y0 y1 y2 y3 y4 y5 y6 y7 y8 y9
      clear hB1 hB2 x1 hx0 hz
      go_wp2_with fail
      refine (HN' [] (by simp [newerL]; omega) _).mono ?_
      rintro e w5 ⟨v5, rfl, hown5, x5⟩
      go_wp2
      go_ret3
      exact HP.out _ _ _ _ _ _ HA'.out rfl (own_base hown5 (Below.size (x1'.alloc _))) ((x1'.alloc _).trans x5)
    · have HA' := Lib.hid ha
      skip
      clear ha
      go_enter Try.func39, Try.ntmps39
      go_wp2_with fail
      refine HM'.mono ?_
      clear HM'
      rintro e w1 ⟨rfl, x1⟩
      have x1' := hx0.trans x1
      replace hB1 := hB1.ext x1
      replace hB2 := hB2.ext x1
      have hz := x1.size
      simp only [World.size_alloc] at hz
      have hlt1 : w.heap.size + 1 < w1.heap.size := by omega
      have hlt0 : w.heap.size < w1.heap.size := by omega
      have s0 := hB1.cell 0
      have s1 := hB1.cell 1
      have s2 := hB1.cell 2
      have s3 := hB1.cell 3
      have y0 := hB2.cell 0
      have y1 := hB2.cell 1
      have y2 := hB2.cell 2
      have y3 := hB2.cell 3
      have y4 := hB2.cell 4
      have y5 := hB2.cell 5
      have y6 := hB2.cell 6
      have y7 := hB2.cell 7
      have y8 := hB2.cell 8
      have y9 := hB2.cell 9
      simp only [List.getElem?_cons_zero, List.getElem?_cons_succ] at s0 s1 s2 s3 y0 y1 y2 y3 y4 y5 y6 y7 y8 y9
      clear hB1 hB2 x1 hx0 hz
      go_wp2_with fail
      refine (answer_free _ _ _ xt xt 0 (src + 1) _ ?_ ?_ ?_ ?_ true ?_).mono ?_
      · go_simp
      · go_simp
      · go_simp
      · go_simp
      · simp
      rintro e w2 ⟨rfl, rfl⟩
      go_wp2_with fail
      refine (HF.out _ (x1'.alloc _)).mono ?_
      rintro e w3 ⟨rfl, x3⟩
      rw [hf]
      have x3' := (x1'.alloc _).trans x3
      have q3 := ((Ext.refl w1).alloc _).trans x3
      replace s0 := q3.cell s0
      replace s1 := q3.cell s1
      replace s2 := q3.cell s2
      replace s3 := q3.cell s3
      replace y0 := q3.cell y0
      replace y1 := q3.cell y1
      replace y2 := q3.cell y2
      replace y3 := q3.cell y3
      replace y4 := q3.cell y4
      replace y5 := q3.cell y5
      replace y6 := q3.cell y6
      replace y7 := q3.cell y7
      replace y8 := q3.cell y8
      replace y9 := q3.cell y9
      have hw3 : w3.cell? ⟨w1.heap.size, 0, none⟩ = some (.int .i64 (src + 1)) := x3.cell (by simp)
      have hlt3 := World.block_lt_of_cell? _ _ y0
      have hlt4 := World.block_lt_of_cell? _ _ s0
      have hlt5 := World.block_lt_of_cell? _ _ hw3
      clear q3 x3 hlt1 hlt0
      go_wp2_with fail
      refine (elect_vote _ _ _).mono ?_
      rintro e w5 ⟨v5, rfl, hown5, x5⟩
      go_wp2
      go_ret3
      exact HP.out _ _ _ _ _ _ HA'.out rfl (own_base hown5 (Below.size x3')) (x3'.trans x5)
    · have HA' := Lib.hid ha
      skip
      clear ha
      go_enter Try.func39, Try.ntmps39
      go_wp2_with fail
      refine HM'.mono ?_
      clear HM'
      rintro e w1 ⟨rfl, x1⟩
      have x1' := hx0.trans x1
      replace hB1 := hB1.ext x1
      replace hB2 := hB2.ext x1
      have hz := x1.size
      simp only [World.size_alloc] at hz
      have hlt1 : w.heap.size + 1 < w1.heap.size := by omega
      have hlt0 : w.heap.size < w1.heap.size := by omega
      have s0 := hB1.cell 0
      have s1 := hB1.cell 1
      have s2 := hB1.cell 2
      have s3 := hB1.cell 3
      have y0 := hB2.cell 0
      have y1 := hB2.cell 1
      have y2 := hB2.cell 2
      have y3 := hB2.cell 3
      have y4 := hB2.cell 4
      have y5 := hB2.cell 5
      have y6 := hB2.cell 6
      have y7 := hB2.cell 7
      have y8 := hB2.cell 8
      have y9 := hB2.cell 9
      simp only [List.getElem?_cons_zero, List.getElem?_cons_succ] at s0 s1 s2 s3 y0 y1 y2 y3 y4 y5 y6 y7 y8 y9
      clear hB1 hB2 x1 hx0 hz
      go_wp2_with fail
      refine (answer_free _ _ _ xt xt 0 (src + 1) _ ?_ ?_ ?_ ?_ true ?_).mono ?_
      · go_simp
      · go_simp
      · go_simp
      · go_simp
      · simp
      rintro e w2 ⟨rfl, rfl⟩
      go_wp2_with fail
      refine (HF.out _ (x1'.alloc _)).mono ?_
      rintro e w3 ⟨rfl, x3⟩
      rw [hf]
      have x3' := (x1'.alloc _).trans x3
      have q3 := ((Ext.refl w1).alloc _).trans x3
      replace s0 := q3.cell s0
      replace s1 := q3.cell s1
      replace s2 := q3.cell s2
      replace s3 := q3.cell s3
      replace y0 := q3.cell y0
      replace y1 := q3.cell y1
      replace y2 := q3.cell y2
      replace y3 := q3.cell y3
      replace y4 := q3.cell y4
      replace y5 := q3.cell y5
      replace y6 := q3.cell y6
      replace y7 := q3.cell y7
      replace y8 := q3.cell y8
      replace y9 := q3.cell y9
      have hw3 : w3.cell? ⟨w1.heap.size, 0, none⟩ = some (.int .i64 (src + 1)) := x3.cell (by simp)
      have hlt3 := World.block_lt_of_cell? _ _ y0
      have hlt4 := World.block_lt_of_cell? _ _ s0
      have hlt5 := World.block_lt_of_cell? _ _ hw3
      clear q3 x3 hlt1 hlt0
      go_wp2_with fail
      refine (HN' [] (by simp [newerL]) _).mono ?_
      rintro e w5 ⟨v5, rfl, hown5, x5⟩
      go_wp2
      go_ret3
      exact HP.out _ _ _ _ _ _ HA'.out rfl (own_base hown5 (Below.size x3')) (x3'.trans x5)
    · have HA' := Lib.hid ha
      skip
      clear ha
      go_enter Try.func39, Try.ntmps39
      go_wp2_with fail
      refine HM'.mono ?_
      clear HM'
      rintro e w1 ⟨rfl, x1⟩
      have x1' := hx0.trans x1
      replace hB1 := hB1.ext x1
      replace hB2 := hB2.ext x1
      have hz := x1.size
      simp only [World.size_alloc] at hz
      have hlt1 : w.heap.size + 1 < w1.heap.size := by omega
      have hlt0 : w.heap.size < w1.heap.size := by omega
      have s0 := hB1.cell 0
      have s1 := hB1.cell 1
      have s2 := hB1.cell 2
      have s3 := hB1.cell 3
      have y0 := hB2.cell 0
      have y1 := hB2.cell 1
      have y2 := hB2.cell 2
      have y3 := hB2.cell 3
      have y4 := hB2.cell 4
      have y5 := hB2.cell 5
      have y6 := hB2.cell 6
      have y7 := hB2.cell 7
      have y8 := hB2.cell 8
      have y9 := hB2.cell 9
      simp only [List.getElem?_cons_zero, List.getElem?_cons_succ] at s0 s1 s2 s3 y0 y1 y2 y3 y4 y5 y6 y7 y8 y9
      clear hB1 hB2 x1 hx0 hz
      go_wp2_with fail
      refine (answer_free _ _ _ xt xt (src + 1) (src + 1) _ ?_ ?_ ?_ ?_ true ?_).mono ?_
      · go_simp
      · go_simp
      · go_simp
      · go_simp
      · simp
      rintro e w2 ⟨rfl, rfl⟩
      go_wp2_with fail
      refine (HF.out _ (x1'.alloc _)).mono ?_
      rintro e w3 ⟨rfl, x3⟩
      rw [hf]
      have x3' := (x1'.alloc _).trans x3
      have q3 := ((Ext.refl w1).alloc _).trans x3
      replace s0 := q3.cell s0
      replace s1 := q3.cell s1
      replace s2 := q3.cell s2
      replace s3 := q3.cell s3
      replace y0 := q3.cell y0
      replace y1 := q3.cell y1
      replace y2 := q3.cell y2
      replace y3 := q3.cell y3
      replace y4 := q3.cell y4
      replace y5 := q3.cell y5
      replace y6 := q3.cell y6
      replace y7 := q3.cell y7
      replace y8 := q3.cell y8
      replace y9 := q3.cell y9
      have hw3 : w3.cell? ⟨w1.heap.size, 0, none⟩ = some (.int .i64 (src + 1)) := x3.cell (by simp)
      have hlt3 := World.block_lt_of_cell? _ _ y0
      have hlt4 := World.block_lt_of_cell? _ _ s0
      have hlt5 := World.block_lt_of_cell? _ _ hw3
      clear q3 x3 hlt1 hlt0
      go_wp2
      go_ret3
      exact HP.out _ _ _ _ _ _ HA'.out rfl (World.ownsRow_nil _ _ _ _) x3'
    · have HA' := Lib.hid ha
      skip
      clear ha
      go_enter Try.func39, Try.ntmps39
      go_wp2_with fail
      refine HM'.mono ?_
      clear HM'
      rintro e w1 ⟨rfl, x1⟩
      have x1' := hx0.trans x1
      replace hB1 := hB1.ext x1
      replace hB2 := hB2.ext x1
      have hz := x1.size
      simp only [World.size_alloc] at hz
      have hlt1 : w.heap.size + 1 < w1.heap.size := by omega
      have hlt0 : w.heap.size < w1.heap.size := by omega
      have s0 := hB1.cell 0
      have s1 := hB1.cell 1
      have s2 := hB1.cell 2
      have s3 := hB1.cell 3
      have y0 := hB2.cell 0
      have y1 := hB2.cell 1
      have y2 := hB2.cell 2
      have y3 := hB2.cell 3
      have y4 := hB2.cell 4
      have y5 := hB2.cell 5
      have y6 := hB2.cell 6
      have y7 := hB2.cell 7
      have y8 := hB2.cell 8
      have y9 := hB2.cell 9
      simp only [List.getElem?_cons_zero, List.getElem?_cons_succ] at s0 s1 s2 s3 y0 y1 y2 y3 y4 y5 y6 y7 y8 y9
      clear hB1 hB2 x1 hx0 hz
      go_wp2_with fail
      refine (answer_free _ _ _ xt xt (src + 1) (src + 1) _ ?_ ?_ ?_ ?_ true ?_).mono ?_
      · go_simp
      · go_simp
      · go_simp
      · go_simp
      · simp
      rintro e w2 ⟨rfl, rfl⟩
      go_wp2_with fail
      refine (HF.out _ (x1'.alloc _)).mono ?_
      rintro e w3 ⟨rfl, x3⟩
      rw [hf]
      have x3' := (x1'.alloc _).trans x3
      have q3 := ((Ext.refl w1).alloc _).trans x3
      replace s0 := q3.cell s0
      replace s1 := q3.cell s1
      replace s2 := q3.cell s2
      replace s3 := q3.cell s3
      replace y0 := q3.cell y0
      replace y1 := q3.cell y1
      replace y2 := q3.cell y2
      replace y3 := q3.cell y3
      replace y4 := q3.cell y4
      replace y5 := q3.cell y5
      replace y6 := q3.cell y6
      replace y7 := q3.cell y7
      replace y8 := q3.cell y8
      replace y9 := q3.cell y9
      have hw3 : w3.cell? ⟨w1.heap.size, 0, none⟩ = some (.int .i64 (src + 1)) := x3.cell (by simp)
      have hlt3 := World.block_lt_of_cell? _ _ y0
      have hlt4 := World.block_lt_of_cell? _ _ s0
      have hlt5 := World.block_lt_of_cell? _ _ hw3
      clear q3 x3 hlt1 hlt0
      go_wp2_with fail
      refine (HN' [] (by simp [newerL]) _).mono ?_
      rintro e w5 ⟨v5, rfl, hown5, x5⟩
      go_wp2
      go_ret3
      exact HP.out _ _ _ _ _ _ HA'.out rfl (own_base hown5 (Below.size x3')) (x3'.trans x5)
    · have HA' := Lib.hid ha
      have k2 := beq_f h2
      have k3 := beq_f h3
      have j2 := dec_f h2
      have j3 := dec_f h3
      have HFR := Lib.hid (show false = (decide (xt < xt) || decide (vote = 0) || decide (vote = src + 1)) by simp [h2, h3])
      clear h2 h3
      clear ha
      go_enter Try.func39, Try.ntmps39
      go_wp2_with fail
      refine HM'.mono ?_
      clear HM'
      rintro e w1 ⟨rfl, x1⟩
      have x1' := hx0.trans x1
      replace hB1 := hB1.ext x1
      replace hB2 := hB2.ext x1
      have hz := x1.size
      simp only [World.size_alloc] at hz
      have hlt1 : w.heap.size + 1 < w1.heap.size := by omega
      have hlt0 : w.heap.size < w1.heap.size := by omega
      have s0 := hB1.cell 0
      have s1 := hB1.cell 1
      have s2 := hB1.cell 2
      have s3 := hB1.cell 3
      have y0 := hB2.cell 0
      have y1 := hB2.cell 1
      have y2 := hB2.cell 2
      have y3 := hB2.cell 3
      have y4 := hB2.cell 4
      have y5 := hB2.cell 5
      have y6 := hB2.cell 6
      have y7 := hB2.cell 7
      have y8 := hB2.cell 8
      have y9 := hB2.cell 9
      simp only [List.getElem?_cons_zero, List.getElem?_cons_succ] at s0 s1 s2 s3 y0 y1 y2 y3 y4 y5 y6 y7 y8 y9
      clear hB1 hB2 x1 hx0 hz
      go_wp2_with fail
      refine (answer_free _ _ _ xt xt vote (src + 1) _ ?_ ?_ ?_ ?_ false ?_).mono ?_
      · go_simp
      · go_simp
      · go_simp
      · go_simp
      · exact HFR.out
      rintro e w2 ⟨rfl, rfl⟩
      go_wp2_with fail
      refine (HN' [] (by simp [newerL]) _).mono ?_
      rintro e w5 ⟨v5, rfl, hown5, x5⟩
      go_wp2
      go_ret3
      exact HP.out _ _ _ _ _ _ HA'.out rfl (own_base hown5 (Below.size (x1'.alloc _))) ((x1'.alloc _).trans x5)
    · have HA' := Lib.hid ha
      have j0 := dec_f (show ¬ xt < term by omega)
      have k1 := beq_f (show xt ≠ term by omega)
      have j1 := dec_f (show ¬ xt = term by omega)
      clear ha
      go_enter Try.func39, Try.ntmps39
      go_wp2_with fail
      refine HM'.mono ?_
      clear HM'
      rintro e w1 ⟨rfl, x1⟩
      have x1' := hx0.trans x1
      replace hB1 := hB1.ext x1
      replace hB2 := hB2.ext x1
      have hz := x1.size
      simp only [World.size_alloc] at hz
      have hlt1 : w.heap.size + 1 < w1.heap.size := by omega
      have hlt0 : w.heap.size < w1.heap.size := by omega
      have s0 := hB1.cell 0
      have s1 := hB1.cell 1
      have s2 := hB1.cell 2
      have s3 := hB1.cell 3
      have y0 := hB2.cell 0
      have y1 := hB2.cell 1
      have y2 := hB2.cell 2
      have y3 := hB2.cell 3
      have y4 := hB2.cell 4
      have y5 := hB2.cell 5
      have y6 := hB2.cell 6
      have y7 := hB2.cell 7
      have y8 := hB2.cell 8
      have y9 := hB2.cell 9
      simp only [List.getElem?_cons_zero, List.getElem?_cons_succ] at s0 s1 s2 s3 y0 y1 y2 y3 y4 y5 y6 y7 y8 y9
      clear hB1 hB2 x1 hx0 hz
      go_wp2_with fail
      refine (answer_free _ _ _ xt term vote (src + 1) _ ?_ ?_ ?_ ?_ true ?_).mono ?_
      · go_simp
      · go_simp
      · go_simp
      · go_simp
      · simp [h1]
      rintro e w2 ⟨rfl, rfl⟩
      go_wp2_with fail
      refine (HF.out _ (x1'.alloc _)).mono ?_
      rintro e w3 ⟨rfl, x3⟩
      rw [hf]
      have x3' := (x1'.alloc _).trans x3
      have q3 := ((Ext.refl w1).alloc _).trans x3
      replace s0 := q3.cell s0
      replace s1 := q3.cell s1
      replace s2 := q3.cell s2
      replace s3 := q3.cell s3
      replace y0 := q3.cell y0
      replace y1 := q3.cell y1
      replace y2 := q3.cell y2
      replace y3 := q3.cell y3
      replace y4 := q3.cell y4
      replace y5 := q3.cell y5
      replace y6 := q3.cell y6
      replace y7 := q3.cell y7
      replace y8 := q3.cell y8
      replace y9 := q3.cell y9
      have hw3 : w3.cell? ⟨w1.heap.size, 0, none⟩ = some (.int .i64 (src + 1)) := x3.cell (by simp)
      have hlt3 := World.block_lt_of_cell? _ _ y0
      have hlt4 := World.block_lt_of_cell? _ _ s0
      have hlt5 := World.block_lt_of_cell? _ _ hw3
      clear q3 x3 hlt1 hlt0
      go_wp2_with fail
      refine (elect_vote _ _ _).mono ?_
      rintro e w5 ⟨v5, rfl, hown5, x5⟩
      go_wp2
      go_ret3
      exact HP.out _ _ _ _ _ _ HA'.out rfl (own_base hown5 (Below.size x3')) (x3'.trans x5)
    · have HA' := Lib.hid ha
      have j0 := dec_f (show ¬ xt < term by omega)
      have k1 := beq_f (show xt ≠ term by omega)
      have j1 := dec_f (show ¬ xt = term by omega)
      clear ha
      go_enter Try.func39, Try.ntmps39
      go_wp2_with fail
      refine HM'.mono ?_
      clear HM'
      rintro e w1 ⟨rfl, x1⟩
      have x1' := hx0.trans x1
      replace hB1 := hB1.ext x1
      replace hB2 := hB2.ext x1
      have hz := x1.size
      simp only [World.size_alloc] at hz
      have hlt1 : w.heap.size + 1 < w1.heap.size := by omega
      have hlt0 : w.heap.size < w1.heap.size := by omega
      have s0 := hB1.cell 0
      have s1 := hB1.cell 1
      have s2 := hB1.cell 2
      have s3 := hB1.cell 3
      have y0 := hB2.cell 0
      have y1 := hB2.cell 1
      have y2 := hB2.cell 2
      have y3 := hB2.cell 3
      have y4 := hB2.cell 4
      have y5 := hB2.cell 5
      have y6 := hB2.cell 6
      have y7 := hB2.cell 7
      have y8 := hB2.cell 8
      have y9 := hB2.cell 9
      simp only [List.getElem?_cons_zero, List.getElem?_cons_succ] at s0 s1 s2 s3 y0 y1 y2 y3 y4 y5 y6 y7 y8 y9
      clear hB1 hB2 x1 hx0 hz
      go_wp2_with fail
      refine (answer_free _ _ _ xt term vote (src + 1) _ ?_ ?_ ?_ ?_ true ?_).mono ?_
      · go_simp
      · go_simp
      · go_simp
      · go_simp
      · simp [h1]
      rintro e w2 ⟨rfl, rfl⟩
      go_wp2_with fail
      refine (HF.out _ (x1'.alloc _)).mono ?_
      rintro e w3 ⟨rfl, x3⟩
      rw [hf]
      have x3' := (x1'.alloc _).trans x3
      have q3 := ((Ext.refl w1).alloc _).trans x3
      replace s0 := q3.cell s0
      replace s1 := q3.cell s1
      replace s2 := q3.cell s2
      replace s3 := q3.cell s3
      replace y0 := q3.cell y0
      replace y1 := q3.cell y1
      replace y2 := q3.cell y2
      replace y3 := q3.cell y3
      replace y4 := q3.cell y4
      replace y5 := q3.cell y5
      replace y6 := q3.cell y6
      replace y7 := q3.cell y7
      replace y8 := q3.cell y8
      replace y9 := q3.cell y9
      have hw3 : w3.cell? ⟨w1.heap.size, 0, none⟩ = some (.int .i64 (src + 1)) := x3.cell (by simp)
      have hlt3 := World.block_lt_of_cell? _ _ y0
      have hlt4 := World.block_lt_of_cell? _ _ s0
      have hlt5 := World.block_lt_of_cell? _ _ hw3
      clear q3 x3 hlt1 hlt0
      go_wp2_with fail
      refine (HN' [voteR xt 0] (by simp [newerL]; omega) _).mono ?_
      rintro e w5 ⟨v5, rfl, hown5, x5⟩
      go_wp2
      go_ret3
      exact HP.out _ _ _ _ _ _ HA'.out rfl (own_base hown5 (Below.size x3')) (x3'.trans x5)
end Go.Proofs.Ytcdnjhcddbkciaa
