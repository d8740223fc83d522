/- What is saved to a Copy: plain words. -/
import Derived.Test.YtcdnjhcddbkciaaElA
import Derived.Test.YtcdnjhcddbkciaaLetA
import Derived.Test.YtcdnjhcddbkciaaLgN
import Derived.Test.YtcdnjhcddbkciaaLgJ
namespace Go.Proofs.Ytcdnjhcddbkciaa
open Go.RowKit

/-- the records of entries that stand behind a place -/
def entR (p : Int) : List EV → List RV
  | [] => []
  | f :: r => ⟨3, p, f.term, f.A, f.len, f.cap, f.b⟩ :: entR (p + 1) r
theorem entR_len : ∀ (p : Int) (l : List EV), (entR p l).length = l.length
  | _, [] => rfl
  | p, f :: r => by simp [entR, entR_len (p + 1) r]
theorem entR_get : ∀ (l : List EV) (p : Int) (j : Nat) (h : j < l.length) (h' : j < (entR p l).length), (entR p l)[j] = ⟨3, p + j, l[j].term, l[j].A, l[j].len, l[j].cap, l[j].b⟩
  | f :: r, p, 0, _, _ => by simp [entR]
  | f :: r, p, j + 1, h, h' => by
    have := entR_get r (p + 1) j (by simpa using h) (by rw [entR_len]; simpa using h)
    simp only [entR, List.getElem_cons_succ]
    rw [this]
    have e : p + 1 + (j : Int) = p + ((j + 1 : Nat) : Int) := by omega
    rw [e]
theorem entR_snoc (p : Int) (l : List EV) (j : Nat) (h : j < l.length) : (entR p l).take (j + 1) = (entR p l).take j ++ [⟨3, p + j, l[j].term, l[j].A, l[j].len, l[j].cap, l[j].b⟩] := by
  have h' : j < (entR p l).length := by rw [entR_len]; exact h
  rw [List.take_succ_eq_append_getElem h', entR_get l p j h h']
/-- what is cut off -/
def cutR (c : Nat) : List RV := if c = 0 then [] else [⟨4, c, 0, none, 0, 0, []⟩]
/-- what is saved to a Copy that goes on -/
def takeL (st : Int) (l : List EV) (xt a : Int) (xl : List EV) : List RV :=
  newerL st xt ++ cutR (mergeB l a xl).1 ++ entR (a + xl.length - (mergeB l a xl).2.length + 1) (mergeB l a xl).2
theorem mayB_copy {x : LV} (h : mayB x = true) (hk : x.kind = 3) : 0 ≤ x.a ∧ x.a ≤ 64 ∧ x.n ≤ 4 := by
  obtain ⟨kind, src, dst, term, la, lb, lc, bin, ok, A, n, cp, l⟩ := x
  dsimp only at hk
  subst hk
  unfold mayB at h
  dsimp only at h ⊢
  simp only [Bool.and_eq_true, inB, decide_eq_true_eq, and_assoc] at h
  simp at h
  omega
theorem mergeB_le (l : List EV) (b : Int) (add : List EV) : (mergeB l b add).2.length ≤ add.length := by
  unfold mergeB
  by_cases h : b < 0 ∨ (l.length : Int) < b
  · rw [if_pos h]; simp
  · rw [if_neg h]
    obtain ⟨i, h1, h2, h3, h4⟩ := mrgB_cases add (l.drop b.toNat) b.toNat
    rcases h4 with ⟨_, k⟩ | ⟨_, _, k⟩ | ⟨_, _, k⟩ <;> rw [k] <;> simp
theorem mrgB_mem : ∀ (h a : List EV) (p : Nat), ∀ f ∈ (mrgB h a p).2, f ∈ a
  | h, [], p, f, hf => by rw [mrgB_nil] at hf; exact hf
  | [], x :: r, _, _, hf => hf
  | y :: s, x :: r, p, f, hf => by
    by_cases e : y.term = x.term
    · have em : mrgB (y :: s) (x :: r) p = mrgB s r (p + 1) := if_pos e
      rw [em] at hf
      exact List.mem_cons_of_mem _ (mrgB_mem s r (p + 1) f hf)
    · have em : mrgB (y :: s) (x :: r) p = (p + 1, x :: r) := if_neg e
      rw [em] at hf
      exact hf
theorem mergeB_mem (l : List EV) (b : Int) (add : List EV) : ∀ f ∈ (mergeB l b add).2, f ∈ add := by
  unfold mergeB
  by_cases h : b < 0 ∨ (l.length : Int) < b
  · rw [if_pos h]; simp
  · rw [if_neg h]; exact mrgB_mem _ _ _
end Go.Proofs.Ytcdnjhcddbkciaa
