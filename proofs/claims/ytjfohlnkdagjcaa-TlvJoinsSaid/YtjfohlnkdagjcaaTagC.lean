/- Fields that were laid down are skipped; cut, they go on. No program in sight. -/
import Derived.Test.YtjfohlnkdagjcaaVarint2
namespace Go.Proofs.Ytjfohlnkdagjcaa
open Go.RowKit

theorem vtk_cut : ∀ (f m k a j : Nat), f + k = 10 → U64 (a + m * 128 ^ k) → (0 < k → m ≠ 0) → j < vsize m → vtk f ((vput m).take j) k a = (0, 0, 2)
  | 0, m, k, a, j, hk, hu, h0, hj => by
    exfalso
    have : k = 10 := by omega
    subst this
    have h1 := h0 (by omega)
    have := hu.lt
    have : 1 * 128 ^ 10 ≤ m * 128 ^ 10 := Nat.mul_le_mul_right _ (by omega)
    rw [pow10] at *
    omega
  | f + 1, m, k, a, 0, hk, hu, h0, hj => by rw [List.take_zero, vtk]
  | f + 1, m, k, a, j + 1, hk, hu, h0, hj => by
    have hlt := hu.lt
    by_cases h : m < 128
    · rw [vsize_small h] at hj; omega
    · rw [vsize_big h] at hj
      rw [vput_big h, List.take_succ_cons, vtk]
      have hx : (UInt8.ofNat (m % 128 + 128)).toNat = m % 128 + 128 := by simp; omega
      have hk9 : k ≠ 9 := by
        rintro rfl
        have : 128 * 128 ^ 9 ≤ m * 128 ^ 9 := Nat.mul_le_mul_right _ (by omega)
        rw [pow9] at *
        omega
      have e : a + m % 128 * 128 ^ k + m / 128 * 128 ^ (k + 1) = a + m * 128 ^ k := by
        rw [Nat.pow_succ, Nat.mul_comm (128 ^ k) 128, ← Nat.mul_assoc, Nat.add_assoc, ← Nat.add_mul]
        congr 2; omega
      rw [hx, if_neg (by omega), if_neg (by omega), if_neg (by omega), show (m % 128 + 128) % 128 = m % 128 by omega]
      exact vtk_cut f (m / 128) (k + 1) _ j (by omega) (by rw [e]; exact hu) (by omega) (by omega)
theorem vtake_cut {N : Nat} (hN : U64 N) {j : Nat} (hj : j < (vput N).length) : vtake ((vput N).take j) = (0, 0, 2) := by
  rw [vput_len] at hj
  exact vtk_cut 10 N 0 0 j rfl (by simpa using hN) (by omega) hj
theorem ttake_cut {num wire : Nat} (h : TagMay num wire) {j : Nat} (hj : j < (vput (8 * num + wire)).length) : ttake ((vput (8 * num + wire)).take j) = (0, 0, 0, 2) := by
  unfold ttake
  rw [vtake_cut (tag_u64 h) hj]
  rfl

/-- the bytes of a field of a number, of bytes -/
def fldN (k n : Nat) : List UInt8 := vput (8 * k + 0) ++ vput n
def fldB (k : Nat) (b : List UInt8) : List UInt8 := vput (8 * k + 2) ++ vput b.length ++ b
theorem may0 {k : Nat} (h1 : 1 ≤ k) (h2 : k ≤ 1000) : TagMay k 0 := ⟨h1, h2, .inl rfl⟩
theorem may2 {k : Nat} (h1 : 1 ≤ k) (h2 : k ≤ 1000) : TagMay k 2 := ⟨h1, h2, .inr rfl⟩

theorem skip_N {k n : Nat} (h1 : 1 ≤ k) (h2 : k ≤ 1000) (hn : U64 n) (L : List UInt8) : tskip (fldN k n ++ L) = ((fldN k n).length, 0) := by
  unfold tskip fldN
  rw [List.append_assoc, ttake_put (may0 h1 h2) (vput n ++ L), List.drop_left, vtake_put hn]
  simp
theorem skip_B {k : Nat} {b : List UInt8} (h1 : 1 ≤ k) (h2 : k ≤ 1000) (hb : b.length ≤ 1000) (L : List UInt8) : tskip (fldB k b ++ L) = ((fldB k b).length, 0) := by
  have hu : U64 b.length := by unfold U64; omega
  unfold tskip fldB
  rw [List.append_assoc, List.append_assoc, ttake_put (may2 h1 h2) (vput b.length ++ (b ++ L)), List.drop_left, vtake_put hu]
  dsimp only
  rw [if_neg (by simp), if_neg (by simp), if_neg (by omega), if_neg (by omega), if_neg (by simp; omega)]
  simp; omega
theorem cut_N {k n : Nat} (h1 : 1 ≤ k) (h2 : k ≤ 1000) (hn : U64 n) {t : Nat} (ht : t < (fldN k n).length) : tskip ((fldN k n).take t) = (0, 2) := by
  unfold fldN at ht ⊢
  rw [List.length_append] at ht
  unfold tskip
  by_cases hc : t < (vput (8 * k + 0)).length
  · rw [List.take_append_of_le_length (by omega), ttake_cut (may0 h1 h2) hc]
    rfl
  · rw [List.take_append, List.take_of_length_le (by omega), ttake_put (may0 h1 h2), List.drop_left, vtake_cut hn (by omega)]
    rfl
theorem cut_B {k : Nat} {b : List UInt8} (h1 : 1 ≤ k) (h2 : k ≤ 1000) (hb : b.length ≤ 1000) {t : Nat} (ht : t < (fldB k b).length) : tskip ((fldB k b).take t) = (0, 2) := by
  have hu : U64 b.length := by unfold U64; omega
  unfold fldB at ht ⊢
  rw [List.append_assoc] at ht ⊢
  rw [List.length_append, List.length_append] at ht
  unfold tskip
  by_cases hc : t < (vput (8 * k + 2)).length
  · rw [List.take_append_of_le_length (by omega), ttake_cut (may2 h1 h2) hc]
    rfl
  · rw [List.take_append, List.take_of_length_le (by omega), ttake_put (may2 h1 h2), List.drop_left]
    by_cases hc2 : t - (vput (8 * k + 2)).length < (vput b.length).length
    · rw [List.take_append_of_le_length (by omega), vtake_cut hu hc2]
      rfl
    · rw [List.take_append, List.take_of_length_le (show (vput b.length).length ≤ _ by omega), vtake_put hu]
      dsimp only
      rw [if_neg (by simp), if_neg (by simp), if_neg (by omega), if_neg (by omega), if_pos]
      simp only [List.length_append, List.length_take]
      omega
theorem fldN_len {k n : Nat} (h1 : 1 ≤ k) (h2 : k ≤ 1000) (hn : U64 n) : (fldN k n).length ≤ 12 := by
  unfold fldN
  have a1 : (vput (8 * k + 0)).length ≤ 2 := by rw [tag_len (may0 h1 h2)]; split <;> omega
  have a2 : (vput n).length ≤ 10 := by rw [vput_len]; exact hn.size
  rw [List.length_append]; omega
theorem fldB_len {k : Nat} {b : List UInt8} (h1 : 1 ≤ k) (h2 : k ≤ 1000) (hb : b.length ≤ 1000) : (fldB k b).length ≤ 1012 := by
  unfold fldB
  have hu : U64 b.length := by unfold U64; omega
  have a1 : (vput (8 * k + 2)).length ≤ 2 := by rw [tag_len (may2 h1 h2)]; split <;> omega
  have a2 : (vput b.length).length ≤ 10 := by rw [vput_len]; exact hu.size
  rw [List.length_append, List.length_append]; omega
end Go.Proofs.Ytjfohlnkdagjcaa
