/- Whether fields may be a record's, in plain words. No program in sight. -/
import Derived.Test.YtjfohlnkdagjcaaSpec
import Derived.Test.YtjfohlnkdagjcaaTlvP
namespace Go.Proofs.Ytjfohlnkdagjcaa
open Go.RowKit

/-- how often a number stands there -/
def cnt (k : Int) (l : List FV) : Nat := (l.filter (fun f => f.num == k)).length
theorem cnt_snoc (k : Int) (l : List FV) (j : Nat) (h : j < l.length) : cnt k (l.take (j + 1)) = cnt k (l.take j) + if l[j].num = k then 1 else 0 := by
  unfold cnt
  rw [List.take_succ_eq_append_getElem h, List.filter_append, List.length_append]
  congr 1
  simp only [List.filter_cons, List.filter_nil]
  by_cases e : l[j].num = k <;> simp [e]
theorem cnt_le (k : Int) (l : List FV) : cnt k l ≤ l.length := List.length_filter_le _ _
theorem cnt_take (k : Int) (l : List FV) (j : Nat) : cnt k (l.take j) ≤ cnt k l := by
  unfold cnt
  exact ((List.take_sublist j l).filter _).length_le
/-- is a field not empty -/
def fullB (f : FV) : Bool := if f.wire = 0 then decide (f.n ≠ 0) else decide (0 < f.len)
/-- is a field, that stands there for the t-th time, as its spec says -/
def isB (f : FV) (s : SpV) (t : Nat) : Bool := (decide (f.wire = (s.wire : Int)) && (decide (t ≤ 1) || s.many)) && fullB f
def oneB (s : SpV) (l : List FV) : Bool := l.all fun f => !(f.num == (s.num : Int)) || (decide (f.wire = (s.wire : Int)) && fullB f)
def specB (s : SpV) (l : List FV) : Bool := oneB s l && ((decide (cnt s.num l ≤ 1) || s.many) && (!s.need || decide (0 < cnt s.num l)))
/-- may fields be those of the specs -/
def okB (S : List SpV) (l : List FV) : Bool := S.all fun s => specB s l
def checkN (S : List SpV) (l : List FV) : Nat := if S = [] then 1 else if fmay l ≠ 0 then fmay l else if okB S l then 0 else 6

theorem okB_false {S : List SpV} {l : List FV} {s : SpV} (hs : s ∈ S) (h : specB s l = false) : okB S l = false := by
  unfold okB
  rw [List.all_eq_false]
  exact ⟨s, hs, by simp [h]⟩
theorem ok_early {S : List SpV} {l : List FV} {s : SpV} (hs : s ∈ S) {j : Nat} (hj : j < l.length) (hn : l[j].num = (s.num : Int)) (h : isB l[j] s (cnt l[j].num (l.take (j + 1))) = false) : okB S l = false := by
  refine okB_false hs ?_
  unfold specB
  by_cases h1 : oneB s l = true
  · rw [h1, Bool.true_and]
    have h2 : decide (l[j].wire = (s.wire : Int)) && fullB l[j] = true := by
      have := List.all_eq_true.1 h1 l[j] (List.getElem_mem _)
      simpa [hn] using this
    simp only [Bool.and_eq_true, decide_eq_true_eq] at h2
    unfold isB at h
    rw [h2.2, decide_eq_true h2.1] at h
    simp only [Bool.true_and, Bool.and_true, Bool.or_eq_false_iff, decide_eq_false_iff_not] at h
    have := cnt_take l[j].num l (j + 1)
    rw [hn] at h this
    have e : decide (cnt (s.num : Int) l ≤ 1) = false := by simp; omega
    rw [e, h.2]; rfl
  · have : oneB s l = false := by simpa using h1
    rw [this, Bool.false_and]
theorem ok_need {S : List SpV} {l : List FV} {s : SpV} (hs : s ∈ S) (hn : s.need = true) (h : cnt s.num l = 0) : okB S l = false := by
  refine okB_false hs ?_
  unfold specB
  rw [hn, h]; simp
theorem last_at' (k : Int) : ∀ (n : Nat) (l : List FV), l.length = n → 0 < cnt k l → ∃ j, ∃ h : j < l.length, l[j].num = k ∧ cnt k (l.take (j + 1)) = cnt k l
  | 0, l, h, hc => by
    have := cnt_le k l
    omega
  | n + 1, l, h, hc => by
    have hsn := cnt_snoc k l n (by omega)
    rw [List.take_of_length_le (show l.length ≤ n + 1 by omega)] at hsn
    by_cases e : (l[n]'(by omega)).num = k
    · exact ⟨n, by omega, e, by rw [List.take_of_length_le (by omega)]⟩
    · rw [if_neg e, Nat.add_zero] at hsn
      obtain ⟨j, hj, h1, h2⟩ := last_at' k n (l.take n) (by rw [List.length_take]; omega) (by omega)
      rw [List.length_take] at hj
      refine ⟨j, by omega, ?_, ?_⟩
      · rw [← h1]; simp
      · rw [hsn, ← h2, List.take_take]; congr 2; omega
theorem last_at (k : Int) (l : List FV) (hc : 0 < cnt k l) : ∃ j, ∃ h : j < l.length, l[j].num = k ∧ cnt k (l.take (j + 1)) = cnt k l := last_at' k _ l rfl hc
theorem ok_all {S : List SpV} {l : List FV} (h1 : ∀ j (hj : j < l.length) q (hq : q < S.length), l[j].num = (S[q].num : Int) → isB l[j] S[q] (cnt l[j].num (l.take (j + 1))) = true)
    (h2 : ∀ q (hq : q < S.length), S[q].need = true → 0 < cnt S[q].num l) : okB S l = true := by
  unfold okB
  rw [List.all_eq_true]
  intro s hs
  obtain ⟨q, hq, rfl⟩ := List.getElem_of_mem hs
  unfold specB
  have e1 : oneB S[q] l = true := by
    unfold oneB
    rw [List.all_eq_true]
    intro f hf
    obtain ⟨j, hj, rfl⟩ := List.getElem_of_mem hf
    by_cases e : l[j].num = (S[q].num : Int)
    · have := h1 j hj q hq e
      unfold isB at this
      simp only [Bool.and_eq_true] at this
      simp [e, this.2, of_decide_eq_true this.1.1]
    · simp [e]
  rw [e1, Bool.true_and]
  have e2 : (decide (cnt S[q].num l ≤ 1) || S[q].many) = true := by
    by_cases c : cnt S[q].num l ≤ 1
    · simp [c]
    · obtain ⟨j, hj, h3, h4⟩ := last_at S[q].num l (by omega)
      have := h1 j hj q hq h3
      unfold isB at this
      rw [h3, h4] at this
      simp only [Bool.and_eq_true, Bool.or_eq_true, decide_eq_true_eq] at this
      simp only [Bool.or_eq_true, decide_eq_true_eq]
      exact this.1.2
  rw [e2, Bool.true_and]
  by_cases c : S[q].need = true
  · simp [h2 q hq c]
  · have : S[q].need = false := by simpa using c
    simp [this]
theorem ok_specs {S : List SpV} {l : List FV} (h : ∀ q (hq : q < S.length), specB S[q] l = true) : okB S l = true := by
  unfold okB
  rw [List.all_eq_true]
  intro s hs
  obtain ⟨q, hq, rfl⟩ := List.getElem_of_mem hs
  exact h q hq
end Go.Proofs.Ytjfohlnkdagjcaa
