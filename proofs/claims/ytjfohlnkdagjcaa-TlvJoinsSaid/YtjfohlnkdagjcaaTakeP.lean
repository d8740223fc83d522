/- Rows taken from bytes: plain. -/
import Derived.Test.YtjfohlnkdagjcaaParts
import Derived.Test.YtjfohlnkdagjcaaTagS
namespace Go.Proofs.Ytjfohlnkdagjcaa

/-- what tag.Skip's good answer says -/
theorem tskip_sound {l : List UInt8} {size : Nat} (h : tskip l = (size, 0)) : ∃ num wire n : Nat, ∃ b : List UInt8, TagMay num wire ∧ U64 n ∧ b.length ≤ 16384 ∧ (wire = 0 → b = []) ∧ (wire = 2 → n = 0) ∧ l.take size = fput num wire n b ∧ size = (fput num wire n b).length ∧ size ≤ l.length ∧ 0 < size := by
  rcases ttake_cases l with h1 | h1 | h1 | ⟨num, wire, s, h1, hm, h2, h3, h4⟩
  · rw [tskip_bad (by omega) h1] at h; cases h
  · rw [tskip_bad (by omega) h1] at h; cases h
  · rw [tskip_bad (by omega) h1] at h; cases h
  · rw [tskip_ok h1] at h
    obtain ⟨_, s1, _, s3⟩ := ttake_sound h1
    rcases vtake_cases (l.drop s) with ⟨v1, _⟩ | v1 | ⟨N, k, v1, hN, k1, k2, k3⟩
    · rw [v1] at h; simp at h
    · rw [v1] at h; simp at h
    · obtain ⟨u1, _, u3⟩ := vtake_sound v1
      rw [List.length_drop] at k3
      rw [v1] at h
      simp only [ne_eq, not_true_eq_false, if_false] at h
      have hvl : (vput N).length = k := by rw [u1, List.length_take, List.length_drop]; omega
      by_cases hw : wire = 0
      · rw [if_pos hw] at h
        injection h with h _
        subst hw
        have e : fput num 0 N [] = l.take s ++ (l.drop s).take k := by unfold fput; rw [if_pos rfl, s1, u1]
        refine ⟨num, 0, N, [], hm, hN, by simp, fun _ => rfl, fun h => by omega, ?_, ?_, by omega, by omega⟩
        · rw [e, ← h, List.take_add]
        · rw [e, List.length_append, List.length_take, List.length_take, List.length_drop]; omega
      · rw [if_neg hw] at h
        by_cases hb : 16384 < N
        · rw [if_pos hb] at h; cases h
        · rw [if_neg hb] at h
          by_cases hc : l.length < s + k + N
          · rw [if_pos hc] at h; cases h
          · rw [if_neg hc] at h
            injection h with h _
            have hw2 : wire = 2 := by rcases hm.2.2 with h | h; exact absurd h hw; exact h
            subst hw2
            have hbl : ((l.drop (s + k)).take N).length = N := by rw [List.length_take, List.length_drop]; omega
            have e : fput num 2 0 ((l.drop (s + k)).take N) = l.take s ++ (l.drop s).take k ++ (l.drop (s + k)).take N := by unfold fput; rw [if_neg (by omega), s1, hbl, u1]; simp
            refine ⟨num, 2, 0, (l.drop (s + k)).take N, hm, by unfold U64; omega, by omega, fun h => by omega, fun _ => rfl, ?_, ?_, by omega, by omega⟩
            · rw [e, ← h, List.take_add, List.take_add]
            · rw [e, List.length_append, List.length_append, List.length_take, List.length_take, List.length_drop, hbl]; omega

/-- a field that lies nowhere -/
def tfv (num wire n : Nat) (b : List UInt8) : FV := ⟨num, wire, n, none, b.length, b.length, b⟩
/-- the field of which l is all the bytes -/
def tfield (l : List UInt8) : FV :=
  if (ttake l).2.1 = 0 then tfv (ttake l).1 0 (vtake (l.drop (ttake l).2.2.1)).1 []
  else tfv (ttake l).1 (ttake l).2.1 0 (l.drop ((ttake l).2.2.1 + (vtake (l.drop (ttake l).2.2.1)).2.1))
theorem take_fput {num wire n : Nat} {b : List UInt8} (hm : TagMay num wire) (hn : U64 n) (hb : b.length ≤ 16384) :
    ∃ s k : Nat, ttake (fput num wire n b) = (num, wire, s, 0) ∧ vtake ((fput num wire n b).drop s) = (if wire = 0 then n else b.length, k, 0) ∧ s + k ≤ (fput num wire n b).length ∧ (wire ≠ 0 → (fput num wire n b).drop (s + k) = b ∧ (fput num wire n b).length = s + k + b.length) := by
  unfold fput
  by_cases hw : wire = 0
  · rw [if_pos hw, if_pos hw]
    refine ⟨(vput (8 * num + wire)).length, (vput n).length, ttake_put hm _, ?_, ?_, fun h => absurd hw h⟩
    · rw [List.drop_left]
      have := vtake_put hn []
      rwa [List.append_nil] at this
    · rw [List.length_append]; omega
  · rw [if_neg hw, if_neg hw]
    refine ⟨(vput (8 * num + wire)).length, (vput b.length).length, ttake_put hm _, ?_, ?_, fun _ => ⟨?_, ?_⟩⟩
    · rw [List.drop_left]
      exact vtake_put (by unfold U64; omega) b
    · rw [List.length_append, List.length_append]; omega
    · rw [← List.append_assoc, List.drop_left' (by simp)]
    · rw [List.length_append, List.length_append]; omega
theorem tfield_put {num wire n : Nat} {b : List UInt8} (hm : TagMay num wire) (hn : U64 n) (hb : b.length ≤ 16384) (h0 : wire = 0 → b = []) (h2 : wire = 2 → n = 0) : tfield (fput num wire n b) = tfv num wire n b := by
  obtain ⟨s, k, e1, e2, _, e4⟩ := take_fput hm hn hb
  unfold tfield
  rw [e1]
  dsimp only
  rw [e2]
  dsimp only
  by_cases hw : wire = 0
  · rw [if_pos hw, if_pos hw, h0 hw, hw]
  · have hw2 : wire = 2 := by rcases hm.2.2 with h | h; exact absurd h hw; exact h
    rw [if_neg hw, (e4 hw).1, h2 hw2]
/-- the row that bytes are, behind a field, and an error's number -/
def trow (prev : Option FV) (l : List UInt8) : List FV × Nat :=
  if hl : l = [] then ([], 0)
  else if (tskip l).2 ≠ 0 then ([], (tskip l).2)
  else if h0 : (tskip l).1 = 0 then ([], 0)
  else if fallsB prev (tfield (l.take (tskip l).1)) = true then ([], 5)
  else if (trow (some (tfield (l.take (tskip l).1))) (l.drop (tskip l).1)).2 ≠ 0 then ([], (trow (some (tfield (l.take (tskip l).1))) (l.drop (tskip l).1)).2)
  else (tfield (l.take (tskip l).1) :: (trow (some (tfield (l.take (tskip l).1))) (l.drop (tskip l).1)).1, 0)
termination_by l.length
decreasing_by
  all_goals
    have : l.length ≠ 0 := fun h => hl (List.eq_nil_of_length_eq_zero h)
    rw [List.length_drop]; omega
/-- a row laid ahead of what is still taken -/
def tjoin (pre : List FV) (r : List FV × Nat) : List FV × Nat := if r.2 ≠ 0 then ([], r.2) else (pre ++ r.1, 0)
theorem trow_nil (p : Option FV) : trow p [] = ([], 0) := by rw [trow]; simp
theorem trow_bad {p : Option FV} {l : List UInt8} (hl : l ≠ []) {e : Nat} (he : e ≠ 0) (h : (tskip l).2 = e) : trow p l = ([], e) := by
  rw [trow, dif_neg hl, h, if_pos he]
theorem trow_falls {p : Option FV} {l : List UInt8} (hl : l ≠ []) {size : Nat} (h0 : 0 < size) (h : tskip l = (size, 0)) (hf : fallsB p (tfield (l.take size)) = true) : trow p l = ([], 5) := by
  rw [trow, dif_neg hl, h, if_neg (by simp), dif_neg (by simp; omega), if_pos hf]
theorem trow_next {p : Option FV} {l : List UInt8} (hl : l ≠ []) {size : Nat} (h0 : 0 < size) (h : tskip l = (size, 0)) (hf : fallsB p (tfield (l.take size)) = false) :
    trow p l = tjoin [tfield (l.take size)] (trow (some (tfield (l.take size))) (l.drop size)) := by
  rw [trow, dif_neg hl, h, if_neg (by simp), dif_neg (by simp; omega), if_neg (by rw [hf]; simp)]
  unfold tjoin
  rfl
theorem tjoin_join (a b : List FV) (r : List FV × Nat) : tjoin a (tjoin b r) = tjoin (a ++ b) r := by
  unfold tjoin
  by_cases h : r.2 ≠ 0
  · simp [h]
  · simp [h]
end Go.Proofs.Ytjfohlnkdagjcaa
