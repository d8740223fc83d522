/- What is merged: plain words. No program in sight. -/
import Derived.Test.YtcdnjhcddbkciaaLgD
namespace Go.Proofs.Ytcdnjhcddbkciaa
open Go.RowKit

/-- the term at a place -/
def tm (l : List EV) (j : Nat) : Int := ((l[j]?).map EV.term).getD 0
theorem tm_at {l : List EV} {j : Nat} (h : j < l.length) : tm l j = l[j].term := by unfold tm; rw [List.getElem?_eq_getElem h]; rfl
theorem tm_drop (l : List EV) (k j : Nat) : tm (l.drop k) j = tm l (k + j) := by unfold tm; rw [List.getElem?_drop]
theorem tm_left {l m : List EV} {j : Nat} (h : j < l.length) : tm (l ++ m) j = tm l j := by unfold tm; rw [List.getElem?_append_left h]
theorem tm_right {l m : List EV} {j : Nat} (h : l.length ≤ j) : tm (l ++ m) j = tm m (j - l.length) := by unfold tm; rw [List.getElem?_append_right h]
theorem tm_take {l : List EV} {n j : Nat} (h : j < n) : tm (l.take n) j = tm l j := by unfold tm; rw [List.getElem?_take_of_lt h]
theorem mrgB_same : ∀ (a h : List EV) (p : Nat), (∀ j, j < a.length → j < h.length ∧ tm h j = tm a j) → mrgB h a p = (0, [])
  | [], h, p, _ => mrgB_nil h p
  | x :: r, [], p, hh => by have := (hh 0 (by simp)).1; simp at this
  | x :: r, y :: s, p, hh => by
    have h0 := (hh 0 (by simp)).2
    have e : y.term = x.term := by simpa [tm] using h0
    show (if y.term = x.term then mrgB s r (p + 1) else (p + 1, x :: r)) = (0, [])
    rw [if_pos e]
    refine mrgB_same r s (p + 1) fun j hj => ?_
    have := hh (j + 1) (by simp; omega)
    simp only [List.length_cons] at this
    exact ⟨by omega, by simpa [tm] using this.2⟩
theorem mrgB_cases : ∀ (a h : List EV) (p : Nat), ∃ i, i ≤ a.length ∧ i ≤ h.length ∧ (∀ j, j < i → tm h j = tm a j) ∧
    ((i = a.length ∧ mrgB h a p = (0, [])) ∨ (i < a.length ∧ i = h.length ∧ mrgB h a p = (0, a.drop i)) ∨ (i < a.length ∧ i < h.length ∧ mrgB h a p = (p + i + 1, a.drop i)))
  | [], h, p => ⟨0, by simp, by simp, fun j hj => absurd hj (by omega), .inl ⟨rfl, mrgB_nil h p⟩⟩
  | x :: r, [], p => ⟨0, by simp, by simp, fun j hj => absurd hj (by omega), .inr (.inl ⟨by simp, rfl, rfl⟩)⟩
  | x :: r, y :: s, p => by
    by_cases e : y.term = x.term
    · have em : mrgB (y :: s) (x :: r) p = mrgB s r (p + 1) := if_pos e
      obtain ⟨i, h1, h2, h3, h4⟩ := mrgB_cases r s (p + 1)
      refine ⟨i + 1, by simp; omega, by simp; omega, fun j hj => ?_, ?_⟩
      · rcases j with _ | j
        · simpa [tm] using e
        · have := h3 j (by omega)
          simpa [tm] using this
      · rw [em]
        rcases h4 with ⟨k1, k2⟩ | ⟨k1, k2, k3⟩ | ⟨k1, k2, k3⟩
        · exact .inl ⟨by simp [k1], k2⟩
        · exact .inr (.inl ⟨by simp; omega, by simp; omega, by rw [k3]; rfl⟩)
        · exact .inr (.inr ⟨by simp; omega, by simp; omega, by rw [k3, List.drop_succ_cons]; congr 1; omega⟩)
    · exact ⟨0, by simp, by simp, fun j hj => absurd hj (by omega), .inr (.inr ⟨by simp, by simp, if_neg e⟩)⟩

/-- how many of the old ones stay -/
def keepN (t : List EV) (c : Nat) : Nat := if c = 0 then t.length else c - 1
theorem merge_facts (t b : List EV) (k : Nat) (hk : k ≤ t.length) :
    ∃ c rest, mrgB (t.drop k) b k = (c, rest) ∧ (c = 0 ∨ (k < c ∧ c ≤ t.length ∧ 0 < rest.length)) ∧ rest.length ≤ b.length ∧
      (rest.length = 0 ∨ keepN t c + rest.length = k + b.length) ∧ k + b.length ≤ keepN t c + rest.length ∧ k ≤ keepN t c ∧ keepN t c ≤ t.length ∧
      (∀ j, j < b.length → tm (t.take (keepN t c) ++ rest) (k + j) = tm b j) ∧
      mrgB ((t.take (keepN t c) ++ rest).drop k) b k = (0, []) ∧ (0 < rest.length ∨ keepN t c + rest.length = t.length) ∧ (∀ f ∈ rest, f ∈ b) := by
  obtain ⟨i, h1, h2, h3, h4⟩ := mrgB_cases b (t.drop k) k
  rw [List.length_drop] at h2
  have h3' : ∀ j, j < i → tm t (k + j) = tm b j := fun j hj => by rw [← tm_drop]; exact h3 j hj
  have fin : ∀ (N : List EV), k + b.length ≤ N.length → (∀ j, j < b.length → tm N (k + j) = tm b j) → mrgB (N.drop k) b k = (0, []) := fun N hN hh =>
    mrgB_same b _ k fun j hj => ⟨by rw [List.length_drop]; omega, by rw [tm_drop]; exact hh j hj⟩
  rcases h4 with ⟨k1, k2⟩ | ⟨k1, k2, k3⟩ | ⟨k1, k2, k3⟩
  · have ek : keepN t 0 = t.length := rfl
    have hT : ∀ j, j < b.length → tm (t.take (keepN t 0) ++ []) (k + j) = tm b j := fun j hj => by
      rw [List.append_nil, ek, List.take_length]; exact h3' j (by omega)
    refine ⟨0, [], k2, .inl rfl, by simp, .inl rfl, by simp [ek]; omega, by rw [ek]; exact hk, by rw [ek]; exact Nat.le_refl _, hT, fin _ (by simp [ek]; omega) hT, .inr (by simp [ek]), by simp⟩
  · rw [List.length_drop] at k2
    have ek : keepN t 0 = t.length := rfl
    have hl : (t.take (keepN t 0)).length = t.length := by rw [ek]; simp
    have hd : (b.drop i).length = b.length - i := List.length_drop
    have hT : ∀ j, j < b.length → tm (t.take (keepN t 0) ++ b.drop i) (k + j) = tm b j := fun j hj => by
      rcases Nat.lt_or_ge j i with q | q
      · rw [tm_left (by rw [hl]; omega), ek, List.take_length]; exact h3' j q
      · rw [tm_right (by rw [hl]; omega), hl, tm_drop]; congr 1; omega
    refine ⟨0, b.drop i, k3, .inl rfl, by rw [hd]; omega, .inr (by rw [ek, hd]; omega), by rw [ek, hd]; omega, by rw [ek]; exact hk, by rw [ek]; exact Nat.le_refl _, hT, fin _ (by rw [List.length_append, hl, hd]; omega) hT, .inl (by rw [hd]; omega), fun f hf => List.mem_of_mem_drop hf⟩
  · rw [List.length_drop] at k2
    have ek : keepN t (k + i + 1) = k + i := by unfold keepN; rw [if_neg (by omega)]; omega
    have hl : (t.take (k + i)).length = k + i := by rw [List.length_take]; omega
    have hd : (b.drop i).length = b.length - i := List.length_drop
    have hT : ∀ j, j < b.length → tm (t.take (keepN t (k + i + 1)) ++ b.drop i) (k + j) = tm b j := fun j hj => by
      rw [ek]
      rcases Nat.lt_or_ge j i with q | q
      · rw [tm_left (by rw [hl]; omega), tm_take (by omega)]; exact h3' j q
      · rw [tm_right (by rw [hl]; omega), hl, tm_drop]; congr 1; omega
    refine ⟨k + i + 1, b.drop i, k3, .inr ⟨by omega, by omega, by rw [hd]; omega⟩, by rw [hd]; omega, .inr (by rw [ek, hd]; omega), by rw [ek, hd]; omega, by rw [ek]; omega, by rw [ek]; omega, hT, fin _ (by rw [ek, List.length_append, hl, hd]; omega) hT, .inl (by rw [hd]; omega), fun f hf => List.mem_of_mem_drop hf⟩
theorem own_cut {w : World} {base : Nat} {e : TypeId} {size n m c : Nat} {A : Option Addr} {xs : List Value} (h : w.ownsRow base e size (.slice A n c) n xs) (hm : m ≤ n) : w.ownsRow base e size (.slice A m c) m (xs.take (m * size)) := by
  have hle : m * size ≤ n * size := Nat.mul_le_mul_right _ hm
  refine ⟨by rw [List.length_take, h.1]; omega, ?_⟩
  rcases h.2 with ⟨hv, h0⟩ | ⟨g, cap, cur, hv, hb, hg, hc, hx, hs, ht⟩
  · injection hv with a1 a2 a3
    subst a1 a3
    have : m = 0 := by omega
    subst this
    exact .inl ⟨rfl, rfl⟩
  · injection hv with a1 a2 a3
    subst a1 a3
    exact .inr ⟨g, c, cur, rfl, hb, hg, by omega, hx, hs, by rw [← ht, List.take_take, Nat.min_eq_left hle]⟩
end Go.Proofs.Ytcdnjhcddbkciaa
