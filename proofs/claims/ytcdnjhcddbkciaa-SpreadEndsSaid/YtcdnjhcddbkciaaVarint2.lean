/- What was put is taken, and what is taken was put: numbers and tags, in plain words. -/
import Derived.Test.YtcdnjhcddbkciaaTag
namespace Go.Proofs.Ytcdnjhcddbkciaa
open Go.RowKit

theorem pow10 : (128 : Nat) ^ 10 = 1180591620717411303424 := by decide
theorem pow9 : (128 : Nat) ^ 9 = 9223372036854775808 := by decide

theorem vtk_put : ∀ (f m k a : Nat) (L : List UInt8), f + k = 10 → U64 (a + m * 128 ^ k) → (0 < k → m ≠ 0) → vtk f (vput m ++ L) k a = (a + m * 128 ^ k, k + vsize m, 0)
  | 0, m, k, a, L, hk, hu, h0 => by
    exfalso
    have : k = 10 := by omega
    subst this
    have h1 := h0 (by omega)
    have := hu.lt
    have : 1 * 128 ^ 10 ≤ m * 128 ^ 10 := Nat.mul_le_mul_right _ (by omega)
    rw [pow10] at *
    omega
  | f + 1, m, k, a, L, hk, hu, h0 => by
    have hlt := hu.lt
    by_cases h : m < 128
    · rw [vput_small h, vsize_small h, List.singleton_append, vtk]
      have hx : (UInt8.ofNat m).toNat = m := by simp; omega
      rw [hx, if_neg (fun hh => h0 hh.1 hh.2), if_neg, if_pos h, Nat.mod_eq_of_lt h]
      rintro ⟨rfl, h2⟩
      have : 2 * 128 ^ 9 ≤ m * 128 ^ 9 := Nat.mul_le_mul_right _ (by omega)
      rw [pow9] at *
      omega
    · rw [vput_big h, vsize_big h, List.cons_append, vtk]
      have hx : (UInt8.ofNat (m % 128 + 128)).toNat = m % 128 + 128 := by simp; omega
      have hk9 : k ≠ 9 := by
        rintro rfl
        have : 128 * 128 ^ 9 ≤ m * 128 ^ 9 := Nat.mul_le_mul_right _ (by omega)
        rw [pow9] at *
        omega
      have e : a + m % 128 * 128 ^ k + m / 128 * 128 ^ (k + 1) = a + m * 128 ^ k := by
        rw [Nat.pow_succ, Nat.mul_comm (128 ^ k) 128, ← Nat.mul_assoc, Nat.add_assoc, ← Nat.add_mul]
        congr 2; omega
      rw [hx, if_neg (by omega), if_neg (by omega), if_neg (by omega), show (m % 128 + 128) % 128 = m % 128 by omega]
      rw [vtk_put f (m / 128) (k + 1) _ L (by omega) (by rw [e]; exact hu) (by omega), e]
      congr 2; omega

theorem vtake_put {N : Nat} (hN : U64 N) (L : List UInt8) : vtake (vput N ++ L) = (N, (vput N).length, 0) := by
  have := vtk_put 10 N 0 0 L rfl (by simpa using hN) (by omega)
  rw [vtake, this, vput_len]; simp

theorem vtk_sound : ∀ (f : Nat) (l : List UInt8) (k a N s : Nat), vtk f l k a = (N, s, 0) →
    ∃ pre x rest, l = pre ++ [x] ++ rest ∧ (∀ y ∈ pre, 128 ≤ y.toNat) ∧ x.toNat < 128 ∧ (k = 0 ∧ pre = [] ∨ x.toNat ≠ 0) ∧ N = a + vval (pre ++ [x]) * 128 ^ k ∧ s = k + pre.length + 1
  | 0, _, _, _, N, s, h => by simp [vtk] at h
  | f + 1, [], _, _, N, s, h => by simp [vtk] at h
  | f + 1, y :: r, k, a, N, s, h => by
    rw [vtk] at h
    by_cases h1 : 0 < k ∧ y.toNat = 0
    · rw [if_pos h1] at h; simp at h
    · rw [if_neg h1] at h
      by_cases h2 : k = 9 ∧ 1 < y.toNat
      · rw [if_pos h2] at h; simp at h
      · rw [if_neg h2] at h
        by_cases h3 : y.toNat < 128
        · rw [if_pos h3] at h
          simp only [Prod.mk.injEq, and_true] at h
          exact ⟨[], y, r, rfl, by simp, h3, (by rcases Nat.eq_zero_or_pos k with hk | hk; exact .inl ⟨hk, rfl⟩; exact .inr (fun h => h1 ⟨hk, h⟩)), by rw [← h.1]; simp [vval], by rw [← h.2]; simp⟩
        · rw [if_neg h3] at h
          obtain ⟨pre, x, rest, e, hp, hx, h0, hN, hs⟩ := vtk_sound f r (k + 1) _ N s h
          refine ⟨y :: pre, x, rest, by rw [e]; rfl, ?_, hx, ?_, ?_, by rw [hs]; simp; omega⟩
          · intro z hz
            rcases List.mem_cons.1 hz with rfl | hz
            · omega
            · exact hp z hz
          · rcases h0 with ⟨h0, _⟩ | h0
            · omega
            · exact .inr h0
          · rw [hN, List.cons_append, vval, Nat.pow_succ, Nat.add_assoc]
            congr 1
            rw [Nat.add_mul, Nat.mul_comm (128 ^ k) 128, ← Nat.mul_assoc, Nat.mul_comm (vval _) 128]

theorem vtake_sound {l : List UInt8} {N s : Nat} (h : vtake l = (N, s, 0)) : vput N = l.take s ∧ s ≤ l.length ∧ s = vsize N := by
  obtain ⟨pre, x, rest, e, hp, hx, h0, hN, hs⟩ := vtk_sound 10 l 0 0 N s h
  have hv := vput_val pre x hp hx (by rcases h0 with h0 | h0; exact .inl h0.2; exact .inr h0)
  have hN' : N = vval (pre ++ [x]) := by rw [hN]; simp
  have ht : l.take s = pre ++ [x] := by rw [e, hs]; rw [List.take_left' (by simp)]
  refine ⟨by rw [hN', hv, ht], by rw [e, hs]; simp, ?_⟩
  rw [← vput_len, hN', hv, hs]; simp

theorem tag_u64 {num wire : Nat} (h : TagMay num wire) : U64 (8 * num + wire) := by
  obtain ⟨_, _, _⟩ := h; unfold U64; omega
theorem tag_len {num wire : Nat} (h : TagMay num wire) : (vput (8 * num + wire)).length = if num < 16 then 1 else 2 := by
  obtain ⟨_, _, _⟩ := h
  rw [vput_len]
  split
  · exact vsize_small (by omega)
  · rw [vsize_big (by omega), vsize_small (by omega)]
theorem ttake_put {num wire : Nat} (h : TagMay num wire) (L : List UInt8) : ttake (vput (8 * num + wire) ++ L) = (num, wire, (vput (8 * num + wire)).length, 0) := by
  have h' := h
  obtain ⟨h1, h2, h3⟩ := h
  unfold ttake
  rw [vtake_put (tag_u64 h')]
  rw [if_neg (by simp), show (8 * num + wire) / 8 = num by omega, show (8 * num + wire) % 8 = wire by omega, if_pos h']
theorem ttake_sound {l : List UInt8} {num wire s : Nat} (h : ttake l = (num, wire, s, 0)) : TagMay num wire ∧ vput (8 * num + wire) = l.take s ∧ s ≤ l.length ∧ s = (vput (8 * num + wire)).length := by
  unfold ttake at h
  rcases vtake_cases l with ⟨h1, _⟩ | h1 | ⟨N, s', h1, hN, _⟩
  · rw [h1] at h; simp at h
  · rw [h1] at h; simp at h
  · obtain ⟨hv, hs, hz⟩ := vtake_sound h1
    rw [h1] at h
    by_cases hm : TagMay (N / 8) (N % 8)
    · rw [if_neg (by simp), if_pos hm] at h
      simp only [Prod.mk.injEq, and_true] at h
      obtain ⟨rfl, rfl, rfl⟩ := h
      rw [show 8 * (N / 8) + N % 8 = N by omega]
      exact ⟨hm, hv, hs, by rw [vput_len]; exact hz⟩
    · rw [if_neg (by simp), if_neg hm] at h; simp at h
end Go.Proofs.Ytcdnjhcddbkciaa
