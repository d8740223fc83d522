/- Tags of fields, in plain words. No program in sight. -/
import Derived.Test.YtcdnjhcddbkciaaVarint
namespace Go.Proofs.Ytcdnjhcddbkciaa
open Go.RowKit

/-- a field's number and kind that may be -/
def TagMay (num wire : Nat) : Prop := 1 ≤ num ∧ num ≤ 1000 ∧ (wire = 0 ∨ wire = 2)
instance (num wire : Nat) : Decidable (TagMay num wire) := by unfold TagMay; infer_instance
/-- the tag with which bytes begin: number, kind, size, an error's number -/
def ttake (l : List UInt8) : Nat × Nat × Nat × Nat :=
  if (vtake l).2.2 ≠ 0 then (0, 0, 0, (vtake l).2.2)
  else if TagMay ((vtake l).1 / 8) ((vtake l).1 % 8) then ((vtake l).1 / 8, (vtake l).1 % 8, (vtake l).2.1, 0) else (0, 0, 0, 6)
/-- how many bytes the field has with which bytes begin -/
def tskip (l : List UInt8) : Nat × Nat :=
  if (ttake l).2.2.2 ≠ 0 then (0, (ttake l).2.2.2)
  else
    let v := vtake (l.drop (ttake l).2.2.1)
    if v.2.2 ≠ 0 then (0, v.2.2)
    else if (ttake l).2.1 = 0 then ((ttake l).2.2.1 + v.2.1, 0)
    else if 16384 < v.1 then (0, 4)
    else if l.length < (ttake l).2.2.1 + v.2.1 + v.1 then (0, 2)
    else ((ttake l).2.2.1 + v.2.1 + v.1, 0)

theorem vtk_cases : ∀ (f : Nat) (l : List UInt8) (k m : Nat), f + k = 10 → m < 128 ^ k →
    (vtk f l k m = (0, 0, 2) ∧ l.length < f) ∨ vtk f l k m = (0, 0, 3) ∨
    ∃ n s, vtk f l k m = (n, s, 0) ∧ U64 n ∧ k < s ∧ s ≤ 10 ∧ s ≤ k + l.length
  | 0, _, _, _, _, _ => .inr (.inl rfl)
  | f + 1, [], k, m, _, _ => .inl ⟨rfl, by simp⟩
  | f + 1, x :: r, k, m, hk, hm => by
    rw [vtk]
    by_cases h1 : 0 < k ∧ x.toNat = 0
    · rw [if_pos h1]; exact .inr (.inl rfl)
    · rw [if_neg h1]
      by_cases h2 : k = 9 ∧ 1 < x.toNat
      · rw [if_pos h2]; exact .inr (.inl rfl)
      · rw [if_neg h2]
        by_cases h3 : x.toNat < 128
        · rw [if_pos h3]
          exact .inr (.inr ⟨_, _, rfl, digit_u64 hm (by omega), by omega, by omega, by simp⟩)
        · rw [if_neg h3]
          rcases vtk_cases f r (k + 1) (m + x.toNat % 128 * 128 ^ k) (by omega) (digit_lt hm (by omega)) with ⟨h, hl⟩ | h | ⟨n, s, h, hn, h4, h5, h6⟩
          · exact .inl ⟨h, by simp; omega⟩
          · exact .inr (.inl h)
          · exact .inr (.inr ⟨n, s, h, hn, by omega, h5, by simp; omega⟩)
theorem vtake_cases (l : List UInt8) : (vtake l = (0, 0, 2) ∧ l.length < 10) ∨ vtake l = (0, 0, 3) ∨ ∃ n s, vtake l = (n, s, 0) ∧ U64 n ∧ 0 < s ∧ s ≤ 10 ∧ s ≤ l.length := by
  have := vtk_cases 10 l 0 0 rfl (by omega)
  simpa [vtake] using this
theorem ttake_cases (l : List UInt8) : ttake l = (0, 0, 0, 2) ∨ ttake l = (0, 0, 0, 3) ∨ ttake l = (0, 0, 0, 6) ∨ ∃ num wire s, ttake l = (num, wire, s, 0) ∧ TagMay num wire ∧ 0 < s ∧ s ≤ 10 ∧ s ≤ l.length := by
  unfold ttake
  rcases vtake_cases l with ⟨h, _⟩ | h | ⟨n, s, h, hn, h1, h2, h3⟩
  · rw [h]; exact .inl rfl
  · rw [h]; exact .inr (.inl rfl)
  · rw [h]
    by_cases hm : TagMay (n / 8) (n % 8)
    · exact .inr (.inr (.inr ⟨n / 8, n % 8, s, by simp [hm], hm, h1, h2, h3⟩))
    · exact .inr (.inr (.inl (by simp [hm])))
end Go.Proofs.Ytcdnjhcddbkciaa
