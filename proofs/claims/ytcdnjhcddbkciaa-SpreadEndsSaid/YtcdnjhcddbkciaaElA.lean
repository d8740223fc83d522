/- The walks of layer 18: what is saved; the laws' states and letters. -/
import Derived.Test.YtcdnjhcddbkciaaLogB
import Derived.Test.YtcdnjhcddbkciaaRec
namespace Go.Proofs.Ytcdnjhcddbkciaa
open Go.RowKit

theorem recsT : SliceT Try.prog 50 70 4 48 := .mk' Try.underlying50 (z := .agg #[.int .i64 0, .int .i64 0, .int .i64 0, .slice none 0 0]) (by kernel_rfl) rfl
theorem entsT : SliceT Try.prog 26 36 2 32 := .mk' Try.underlying26 (z := .agg #[.int .i64 0, .slice none 0 0]) (by kernel_rfl) rfl

set_option maxRecDepth 100000 in
theorem elect_vote (t who : Int) (w : World) : Calls Try.prog 65 #[.int .i64 t, .int .i64 who] w fun e w' => ∃ v, e = .returned v ∧ w'.ownsRow w.heap.size 70 4 v 1 (recOf [voteR t who]) ∧ Ext w w' := by
  have h := blk_own w #[.int .i64 2, .int .i64 t, .int .i64 who, .slice none 0 0] 70 4 1 rfl (by omega) (Nat.le_refl _) _ rfl
  have H := Lib.hid h; clear h
  go_enter Try.func65, Try.ntmps65
  go_wp2
  go_ret
  exact ⟨_, rfl, H.out, (Ext.refl w).alloc _⟩

set_option maxRecDepth 100000 in
theorem elect_Newer (s : SV) (t : Int) (w : World) : Calls Try.prog 46 #[s.val, .int .i64 t] w fun e w' => ∃ v, e = .returned v ∧ w'.ownsRow w.heap.size 70 4 v (newerL s.term t).length (recOf (newerL s.term t)) ∧ Ext w w' := by
  obtain ⟨floor, term, vote, A, n, c, l⟩ := s
  unfold SV.val
  dsimp only
  by_cases h : t ≤ term
  · rw [show newerL term t = [] by simp [newerL, h]]
    go_enter Try.func46, Try.ntmps46
    go_wp2
    go_ret
    exact ⟨_, rfl, World.ownsRow_nil _ _ _ _, (Ext.refl w).alloc _⟩
  · rw [show newerL term t = [voteR t 0] by simp [newerL, h]]
    go_enter Try.func46, Try.ntmps46
    go_wp2_with fail
    refine (elect_vote _ _ _).mono ?_
    rintro e w1 ⟨v, rfl, hown, x1⟩
    go_wp2
    go_ret
    exact ⟨v, rfl, own_base hown (by simp), ((Ext.refl w).alloc _).trans x1⟩

set_option maxRecDepth 100000 in
theorem ref18_Newer (s : SV) (t : Int) (w : World) : Calls Try.prog 47 #[s.val, .int .i64 t] w fun e w' => ∃ v, e = .returned v ∧ w'.ownsRow w.heap.size 70 4 v (newerL s.term t).length (recOf (newerL s.term t)) ∧ Ext w w' := by
  obtain ⟨floor, term, vote, A, n, c, l⟩ := s
  unfold SV.val
  dsimp only
  by_cases h : t ≤ term
  · rw [show newerL term t = [] by simp [newerL, h]]
    go_enter Try.func47, Try.ntmps47
    go_wp2
    go_ret
    exact ⟨_, rfl, World.ownsRow_nil _ _ _ _, (Ext.refl w).alloc _⟩
  · rw [show newerL term t = [voteR t 0] by simp [newerL, h]]
    have H := Lib.hid (fun w k hk => blk_own w #[.int .i64 2, .int .i64 t, .int .i64 0, .slice none 0 0] 70 4 1 rfl (by omega) (Nat.le_refl _) k hk)
    go_enter Try.func47, Try.ntmps47
    go_wp2
    go_ret
    exact ⟨_, rfl, own_base (H.out _ _ (by simp)) (by simp), ((Ext.refl w).alloc _).alloc _⟩

/-- what is saved to stand, and an error's number -/
def standL (st me : Int) : List RV × Nat := if me < 0 ∨ 5 ≤ me then ([], 1) else if 1048576 ≤ st then ([], 4) else ([voteR (st + 1) (me + 1)], 0)

set_option maxRecDepth 100000 in
theorem elect_Stand (s : SV) (me : Int) (w : World) (hs : I64 s.term) : Calls Try.prog 42 #[s.val, .int .i64 me] w fun e w' => ∃ v, e = .returned (.tuple #[v, .int .i64 (standL s.term me).2]) ∧ w'.ownsRow w.heap.size 70 4 v (standL s.term me).1.length (recOf (standL s.term me).1) ∧ Ext w w' := by
  obtain ⟨floor, term, vote, A, n, c, l⟩ := s
  unfold SV.val
  dsimp only at hs ⊢
  by_cases h1 : me < 0
  · rw [show standL term me = ([], 1) by simp [standL, h1]]
    clear hs
    go_enter Try.func42, Try.ntmps42
    go_wp2
    go_ret2
    exact ⟨_, rfl, World.ownsRow_nil _ _ _ _, (Ext.refl w).alloc _⟩
  · by_cases h2 : 5 ≤ me
    · rw [show standL term me = ([], 1) by simp [standL, h1, h2]]
      clear hs
      go_enter Try.func42, Try.ntmps42
      go_wp2
      go_ret2
      exact ⟨_, rfl, World.ownsRow_nil _ _ _ _, (Ext.refl w).alloc _⟩
    · by_cases h3 : 1048576 ≤ term
      · rw [show standL term me = ([], 4) by simp [standL, h1, h2, h3]]
        clear hs
        go_enter Try.func42, Try.ntmps42
        go_wp2
        go_ret2
        exact ⟨_, rfl, World.ownsRow_nil _ _ _ _, (Ext.refl w).alloc _⟩
      · rw [show standL term me = ([voteR (term + 1) (me + 1)], 0) by simp [standL, h1, h2, h3]]
        have e1 : IntKind.i64.wrap (term + 1) = term + 1 := IntWalk.i64_in _ ⟨by have := hs.lo; omega, by omega⟩
        clear hs
        go_enter Try.func42, Try.ntmps42
        go_wp2_with fail
        refine (elect_vote _ _ _).mono ?_
        rintro e w1 ⟨v, rfl, hown, x1⟩
        go_wp2
        go_ret2
        exact ⟨v, rfl, own_base hown (by simp), ((Ext.refl w).alloc _).trans x1⟩
set_option maxRecDepth 100000 in
theorem ref18_Stand (s : SV) (me : Int) (w : World) (hs : I64 s.term) : Calls Try.prog 43 #[s.val, .int .i64 me] w fun e w' => ∃ v, e = .returned (.tuple #[v, .int .i64 (standL s.term me).2]) ∧ w'.ownsRow w.heap.size 70 4 v (standL s.term me).1.length (recOf (standL s.term me).1) ∧ Ext w w' := by
  obtain ⟨floor, term, vote, A, n, c, l⟩ := s
  unfold SV.val
  dsimp only at hs ⊢
  by_cases h1 : me < 0
  · rw [show standL term me = ([], 1) by simp [standL, h1]]
    clear hs
    go_enter Try.func43, Try.ntmps43
    go_wp2
    go_ret2
    exact ⟨_, rfl, World.ownsRow_nil _ _ _ _, (Ext.refl w).alloc _⟩
  · by_cases h2 : 5 ≤ me
    · rw [show standL term me = ([], 1) by simp [standL, h1, h2]]
      clear hs
      go_enter Try.func43, Try.ntmps43
      go_wp2
      go_ret2
      exact ⟨_, rfl, World.ownsRow_nil _ _ _ _, (Ext.refl w).alloc _⟩
    · by_cases h3 : 1048576 ≤ term
      · rw [show standL term me = ([], 4) by simp [standL, h1, h2, h3]]
        clear hs
        go_enter Try.func43, Try.ntmps43
        go_wp2
        go_ret2
        exact ⟨_, rfl, World.ownsRow_nil _ _ _ _, (Ext.refl w).alloc _⟩
      · rw [show standL term me = ([voteR (term + 1) (me + 1)], 0) by simp [standL, h1, h2, h3]]
        have e1 : IntKind.i64.wrap (term + 1) = term + 1 := IntWalk.i64_in _ ⟨by have := hs.lo; omega, by omega⟩
        have H := Lib.hid (fun w k hk => blk_own w #[.int .i64 2, .int .i64 (term + 1), .int .i64 (me + 1), .slice none 0 0] 70 4 1 rfl (by omega) (Nat.le_refl _) k hk)
        clear hs
        go_enter Try.func43, Try.ntmps43
        go_wp2
        go_ret2
        exact ⟨_, rfl, own_base (H.out _ _ (by simp)) (by simp), ((Ext.refl w).alloc _).alloc _⟩

end Go.Proofs.Ytcdnjhcddbkciaa
