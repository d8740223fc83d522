/- What most have: plain words. No program in sight. -/
import Derived.Test.YtcdnjhcddbkciaaBase
namespace Go.Proofs.Ytcdnjhcddbkciaa
def cntB (y : Int) (l : List Int) : Nat := l.countP fun x => decide (y ≤ x)
def majB (l : List Int) (y : Int) : Prop := l.length < 2 * cntB y l
def sortB (l : List Int) : List Int := l.mergeSort fun x y => decide (y ≤ x)
def majorB (l : List Int) : Int := ((sortB l)[l.length / 2]?).getD 0
theorem majorB_nil : majorB [] = 0 := by simp [majorB, sortB]
theorem sortB_perm (l : List Int) : (sortB l).Perm l := List.mergeSort_perm _ _
theorem sortB_len (l : List Int) : (sortB l).length = l.length := (sortB_perm l).length_eq
theorem sortB_sorted (l : List Int) : (sortB l).Pairwise fun a b => b ≤ a := by
  have h := List.pairwise_mergeSort (le := fun x y : Int => decide (y ≤ x)) (by intro a b c h1 h2; simp only [decide_eq_true_eq] at *; omega) (by intro a b; simp only [Bool.or_eq_true, decide_eq_true_eq]; omega) l
  exact h.imp (by intro a b h; simpa using h)
theorem cntB_up {s : List Int} (h : s.Pairwise fun a b => b ≤ a) {k : Nat} (hk : k < s.length) : k + 1 ≤ cntB s[k] s := by
  unfold cntB
  have e : s = s.take (k + 1) ++ s.drop (k + 1) := (List.take_append_drop _ _).symm
  have h1 : (s.take (k + 1)).countP (fun x => decide (s[k] ≤ x)) = (s.take (k + 1)).length := by
    rw [List.countP_eq_length]
    intro a ha
    obtain ⟨i, hi, rfl⟩ := List.getElem_of_mem ha
    rw [List.length_take] at hi
    rw [List.getElem_take]
    rcases Nat.lt_or_ge i k with hik | hik
    · simpa using (List.pairwise_iff_getElem.1 h) i k (by omega) hk hik
    · have : i = k := by omega
      subst this; simp
  have h2 : s.countP (fun x => decide (s[k] ≤ x)) = (s.take (k + 1)).countP (fun x => decide (s[k] ≤ x)) + (s.drop (k + 1)).countP (fun x => decide (s[k] ≤ x)) := by rw [← List.countP_append, List.take_append_drop]
  rw [h2, h1, List.length_take]
  omega
theorem cntB_dn {s : List Int} (h : s.Pairwise fun a b => b ≤ a) {k : Nat} (hk : k < s.length) {y : Int} (hy : s[k] < y) : cntB y s ≤ k := by
  unfold cntB
  have h1 : (s.drop k).countP (fun x => decide (y ≤ x)) = 0 := by
    rw [List.countP_eq_zero]
    intro a ha
    obtain ⟨i, hi, rfl⟩ := List.getElem_of_mem ha
    rw [List.length_drop] at hi
    rw [List.getElem_drop]
    rcases Nat.eq_zero_or_pos i with rfl | hi0
    · simpa using hy
    · have := (List.pairwise_iff_getElem.1 h) k (k + i) hk (by omega) (by omega)
      simp only [decide_eq_true_eq]; omega
  have h2 : s.countP (fun x => decide (y ≤ x)) = (s.take k).countP (fun x => decide (y ≤ x)) + (s.drop k).countP (fun x => decide (y ≤ x)) := by rw [← List.countP_append, List.take_append_drop]
  rw [h2, h1]
  have := List.countP_le_length (p := fun x => decide (y ≤ x)) (l := s.take k)
  rw [List.length_take] at this
  omega
theorem majorB_at {l : List Int} (h : l ≠ []) : ∃ hk : l.length / 2 < (sortB l).length, majorB l = (sortB l)[l.length / 2] := by
  have hl : 0 < l.length := List.length_pos_iff.2 h
  have hk : l.length / 2 < (sortB l).length := by rw [sortB_len]; omega
  exact ⟨hk, by unfold majorB; rw [List.getElem?_eq_getElem hk]; rfl⟩
theorem majorB_mem {l : List Int} (h : l ≠ []) : majorB l ∈ l := by
  obtain ⟨hk, e⟩ := majorB_at h
  rw [e]
  exact (sortB_perm l).subset (List.getElem_mem _)
theorem cntB_sort (y : Int) (l : List Int) : cntB y (sortB l) = cntB y l := (sortB_perm l).countP_eq _
theorem majorB_maj {l : List Int} (h : l ≠ []) : majB l (majorB l) := by
  obtain ⟨hk, e⟩ := majorB_at h
  have := cntB_up (sortB_sorted l) hk
  rw [← e, cntB_sort] at this
  unfold majB; omega
theorem majorB_top {l : List Int} (h : l ≠ []) {y : Int} (hy : majorB l < y) : ¬ majB l y := by
  obtain ⟨hk, e⟩ := majorB_at h
  rw [e] at hy
  have := cntB_dn (sortB_sorted l) hk hy
  rw [cntB_sort] at this
  unfold majB; omega
theorem majorB_eq {l : List Int} (h : l ≠ []) {y : Int} (h1 : majB l y) (h2 : ∀ z, y < z → z ∈ l → ¬ majB l z) : majorB l = y := by
  rcases Int.lt_trichotomy (majorB l) y with k | k | k
  · exact absurd h1 (majorB_top h k)
  · exact k
  · exact absurd (majorB_maj h) (h2 _ k (majorB_mem h))
theorem majorB_perm {l m : List Int} (p : l.Perm m) : majorB l = majorB m := by
  by_cases h : l = []
  · subst h; rw [List.nil_perm.1 p]
  · have hm : m ≠ [] := fun e => h (List.perm_nil.1 (e ▸ p))
    have hc : ∀ y, cntB y l = cntB y m := fun y => p.countP_eq _
    refine majorB_eq h ?_ fun z hz _ => ?_
    · have := majorB_maj hm; unfold majB at *; rw [hc, p.length_eq]; exact this
    · have := majorB_top hm hz; unfold majB at *; rw [hc, p.length_eq]; exact this
theorem majorB_312 : majorB [3, 1, 2] = 2 := majorB_eq (by simp) (by unfold majB cntB; decide) (by
  intro z hz hm
  simp only [List.mem_cons, List.not_mem_nil, or_false] at hm
  rcases hm with rfl | rfl | rfl <;> first | omega | (unfold majB cntB; decide))
theorem majorB_3129 : majorB [3, 1, 2, 9] = 2 := majorB_eq (by simp) (by unfold majB cntB; decide) (by
  intro z hz hm
  simp only [List.mem_cons, List.not_mem_nil, or_false] at hm
  rcases hm with rfl | rfl | rfl | rfl <;> first | omega | (unfold majB cntB; decide))
end Go.Proofs.Ytcdnjhcddbkciaa
