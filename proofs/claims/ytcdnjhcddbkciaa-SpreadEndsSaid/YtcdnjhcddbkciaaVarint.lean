/- Numbers in few bytes, in plain words: how many groups, the bytes, the taking. No program in sight. -/
import Derived.Test.YtcdnjhcddbkciaaBase
namespace Go.Proofs.Ytcdnjhcddbkciaa
open Go.RowKit

/-- how many bytes a number has -/
def vsize (n : Nat) : Nat := if h : n < 128 then 1 else vsize (n / 128) + 1
termination_by n
decreasing_by omega

theorem vsize_pos (n : Nat) : 1 ≤ vsize n := by rw [vsize]; split <;> omega
theorem vsize_le : ∀ (k n : Nat), n < 128 ^ (k+1) → vsize n ≤ k + 1 := by
  intro k
  induction k with
  | zero => intro n h; rw [vsize]; simp at h; simp [h]
  | succ k ih =>
    intro n h
    rw [vsize]
    split
    · omega
    · have := ih (n / 128) (by rw [Nat.div_lt_iff_lt_mul (by omega)]; rw [Nat.pow_succ] at h; exact h)
      omega
theorem vsize_small {n : Nat} (h : n < 128) : vsize n = 1 := by rw [vsize]; simp [h]
theorem vsize_big {n : Nat} (h : ¬ n < 128) : vsize n = vsize (n / 128) + 1 := by rw [vsize]; simp [h]

/-- the bytes of a number -/
def vput (n : Nat) : List UInt8 := if h : n < 128 then [UInt8.ofNat n] else UInt8.ofNat (n % 128 + 128) :: vput (n / 128)
termination_by n
decreasing_by omega
theorem vput_small {n : Nat} (h : n < 128) : vput n = [UInt8.ofNat n] := by rw [vput]; simp [h]
theorem vput_big {n : Nat} (h : ¬ n < 128) : vput n = UInt8.ofNat (n % 128 + 128) :: vput (n / 128) := by rw [vput]; simp [h]
theorem vput_len (n : Nat) : (vput n).length = vsize n := by
  induction n using Nat.strongRecOn with
  | _ n ih =>
    by_cases h : n < 128
    · rw [vput_small h, vsize_small h]; rfl
    · rw [vput_big h, vsize_big h, List.length_cons, ih _ (by omega)]

/-- a number of 64 bits (behind a name: the numeral is long) -/
def U64 (n : Nat) : Prop := n < 18446744073709551616
theorem U64.lt {n : Nat} (h : U64 n) : n < 18446744073709551616 := h
theorem U64.size {n : Nat} (h : U64 n) : vsize n ≤ 10 := vsize_le 9 n (by have := h.lt; omega)
theorem U64.le {n m : Nat} (h : U64 n) (hm : m ≤ n) : U64 m := Nat.lt_of_le_of_lt hm h
theorem U64.wrap {n : Nat} (h : U64 n) : IntKind.u64.wrap (n : Int) = (n : Int) := by
  have := h.lt
  simp [IntKind.wrap, IntKind.bits, IntKind.signed]
  omega
theorem U64.div {n : Nat} (h : U64 n) (m : Nat) : U64 (n / m) := Nat.lt_of_le_of_lt (Nat.div_le_self _ _) h
theorem U64.mod {n : Nat} (h : U64 n) (m : Nat) : U64 (n % m) := Nat.lt_of_le_of_lt (Nat.mod_le _ _) h

/-- k bytes of a number, all of which say that more follow -/
def vraw : Nat → Nat → List Nat
  | 0, _ => []
  | k + 1, n => (n % 128 + 128) :: vraw k (n / 128)
theorem vraw_len : ∀ k n, (vraw k n).length = k
  | 0, _ => rfl
  | k + 1, n => by simp [vraw, vraw_len k]
theorem vraw_lt : ∀ k n, ∀ x ∈ vraw k n, 128 ≤ x ∧ x < 256
  | 0, _, x, h => by simp [vraw] at h
  | k + 1, n, x, h => by
    simp only [vraw, List.mem_cons] at h
    rcases h with rfl | h
    · omega
    · exact vraw_lt k _ x h
theorem vput_lt (n : Nat) : ∀ x, (vraw (vsize n) n)[vsize n - 1]? = some x → 128 ≤ x ∧ x < 256 := fun x h => vraw_lt _ _ x (List.mem_of_getElem? h)
theorem vraw_put (n : Nat) : ∃ x, x < 128 ∧ (vraw (vsize n) n)[vsize n - 1]? = some (x + 128) ∧ ((vraw (vsize n) n).set (vsize n - 1) x).map UInt8.ofNat = vput n := by
  induction n using Nat.strongRecOn with
  | _ n ih =>
    by_cases h : n < 128
    · refine ⟨n, h, ?_, ?_⟩
      · simp only [vsize_small h, vraw]; simp; omega
      · simp only [vsize_small h, vraw, vput_small h]; simp
    · obtain ⟨x, hx, h1, h2⟩ := ih (n / 128) (by omega)
      have hp := vsize_pos (n / 128)
      obtain ⟨k, hk⟩ : ∃ k, vsize (n / 128) = k + 1 := ⟨vsize (n / 128) - 1, by omega⟩
      refine ⟨x, hx, ?_, ?_⟩
      · rw [vsize_big h, vraw, Nat.add_sub_cancel, hk, List.getElem?_cons_succ]
        rw [hk] at h1; simpa using h1
      · rw [vsize_big h, vraw, Nat.add_sub_cancel, hk, List.set_cons_succ, List.map_cons, vput_big h]
        rw [hk] at h2
        rw [← h2]; rfl

/-- the taking: f bytes at most are looked at yet; k lie behind, which come to m -/
def vtk : Nat → List UInt8 → Nat → Nat → Nat × Nat × Nat
  | 0, _, _, _ => (0, 0, 3)
  | _ + 1, [], _, _ => (0, 0, 2)
  | f + 1, x :: r, k, m =>
    if 0 < k ∧ x.toNat = 0 then (0, 0, 3) else if k = 9 ∧ 1 < x.toNat then (0, 0, 3)
    else if x.toNat < 128 then (m + x.toNat % 128 * 128 ^ k, k + 1, 0) else vtk f r (k + 1) (m + x.toNat % 128 * 128 ^ k)
/-- what is taken of bytes: the number, how many bytes it has, an error's number -/
def vtake (l : List UInt8) : Nat × Nat × Nat := vtk 10 l 0 0

theorem pow128 : ∀ {j : Nat}, j < 9 → 128 ^ (j + 1) ≤ 9223372036854775808
  | j, h => by
    have : 128 ^ (j + 1) ≤ 128 ^ 9 := Nat.pow_le_pow_right (by omega) (by omega)
    omega
theorem digit_lt {m j x : Nat} (hm : m < 128 ^ j) (hx : x < 128) : m + x * 128 ^ j < 128 ^ (j + 1) := by
  rw [Nat.pow_succ]
  have : x * 128 ^ j ≤ 127 * 128 ^ j := Nat.mul_le_mul_right _ (by omega)
  omega
theorem digit_u64 {m j x : Nat} (hm : m < 128 ^ j) (h9 : j < 9 ∨ j = 9 ∧ x ≤ 1) : U64 (m + x % 128 * 128 ^ j) := by
  unfold U64
  rcases h9 with h9 | ⟨rfl, h9⟩
  · have := digit_lt (x := x % 128) hm (by omega)
    have := pow128 h9
    omega
  · have : x % 128 * 128 ^ 9 ≤ 1 * 128 ^ 9 := Nat.mul_le_mul_right _ (by omega)
    omega
theorem shl_eq (x j : Nat) : ((x : Int) * 2 ^ (7 * j)) = ((x * 128 ^ j : Nat) : Int) := by
  have : (2:Nat) ^ (7 * j) = 128 ^ j := by rw [Nat.pow_mul]
  rw [Int.natCast_mul, ← this]; simp
theorem or_digit {m j x : Nat} (hm : m < 128 ^ j) : m ||| x * 128 ^ j = m + x * 128 ^ j := by
  have e : (128:Nat) ^ j = 2 ^ (7 * j) := by rw [Nat.pow_mul]
  rw [e] at hm ⊢
  rw [Nat.or_comm, nat_join (7*j) _ _ (by simp) hm, Nat.add_comm]
theorem take_step {m j x : Nat} (hm : m < 128 ^ j) (hx : x < 256) (h9 : j < 9 ∨ j = 9 ∧ x ≤ 1) :
    bits .or .u64 (m : Int) (IntKind.u64.wrap (IntKind.u64.wrap (bits .and .u8 (x : Int) 127) * 2 ^ (7 * j))) = ((m + x % 128 * 128 ^ j : Nat) : Int) := by
  have hu := digit_u64 hm h9
  have hu1 : U64 m := hu.le (by omega)
  have hu2 : U64 (x % 128 * 128 ^ j) := hu.le (by omega)
  have hu3 : U64 (x % 128) := by unfold U64; omega
  rw [and127 x hx, hu3.wrap, shl_eq, hu2.wrap, u64_or_nat _ _ hu1.lt hu2.lt, or_digit hm]

/-- the number that groups come to -/
def vval : List UInt8 → Nat
  | [] => 0
  | x :: r => x.toNat % 128 + 128 * vval r
theorem vval_append (l : List UInt8) (x : UInt8) : vval (l ++ [x]) = vval l + x.toNat % 128 * 128 ^ l.length := by
  induction l with
  | nil => simp [vval]
  | cons y r ih => simp only [List.cons_append, vval, ih, List.length_cons, Nat.pow_succ]; rw [Nat.mul_add, Nat.add_assoc]; congr 2; rw [Nat.mul_comm 128, Nat.mul_assoc]
theorem vval_lt (l : List UInt8) : vval l < 128 ^ l.length := by
  induction l with
  | nil => simp [vval]
  | cons y r ih => simp only [vval, List.length_cons, Nat.pow_succ]; omega
theorem vval_put (n : Nat) : vval (vput n) = n := by
  induction n using Nat.strongRecOn with
  | _ n ih =>
    by_cases h : n < 128
    · rw [vput_small h]; simp [vval]; omega
    · rw [vput_big h, vval, ih _ (by omega)]
      have : (UInt8.ofNat (n % 128 + 128)).toNat = n % 128 + 128 := by simp; omega
      rw [this]; omega
theorem vput_val : ∀ (l : List UInt8) (x : UInt8), (∀ y ∈ l, 128 ≤ y.toNat) → x.toNat < 128 → (l = [] ∨ x.toNat ≠ 0) → vput (vval (l ++ [x])) = l ++ [x]
  | [], x, _, hx, _ => by
    simp only [List.nil_append, vval]
    rw [vput_small (by omega)]
    simp [Nat.mod_eq_of_lt hx]
  | y :: r, x, hl, hx, h0 => by
    have h0' : x.toNat ≠ 0 := by rcases h0 with h | h; cases h; exact h
    have ih := vput_val r x (fun z hz => hl z (List.mem_cons_of_mem _ hz)) hx (.inr h0')
    have hy := hl y (List.mem_cons_self ..)
    have hpos : 1 ≤ vval (r ++ [x]) := by
      rw [vval_append]
      have : 1 ≤ x.toNat % 128 * 128 ^ r.length := Nat.mul_pos (by omega) (Nat.pow_pos (by omega))
      omega
    rw [List.cons_append, vval, vput_big (by omega)]
    have h1 : (y.toNat % 128 + 128 * vval (r ++ [x])) % 128 + 128 = y.toNat := by have := y.toNat_lt; omega
    have h2 : (y.toNat % 128 + 128 * vval (r ++ [x])) / 128 = vval (r ++ [x]) := by omega
    rw [h1, h2, ih]
    simp
theorem vsize_lt {n j : Nat} (h : n < 128 ^ j) (hj : 0 < j) : vsize n ≤ j := by
  obtain ⟨k, rfl⟩ : ∃ k, j = k + 1 := ⟨j - 1, by omega⟩
  exact vsize_le k n h

/-- the sum of the reference: it may pass 64 bits in the tenth byte alone -/
theorem ref_sum (v x j : Nat) (hv : v < 128 ^ j) : ∃ N, U64 N ∧ IntKind.u64.wrap ((v : Int) + IntKind.u64.wrap ((x : Int) % 128 * 2 ^ (7 * j))) = (N : Int) ∧
    ((j < 9 ∨ j = 9 ∧ x ≤ 1) → N = v + x % 128 * 128 ^ j) ∧ N % 18446744073709551616 = (v + x % 128 * 128 ^ j) % 18446744073709551616 := by
  refine ⟨(v + x % 128 * 128 ^ j) % 18446744073709551616, Nat.mod_lt _ (by omega), ?_, fun h => Nat.mod_eq_of_lt (digit_u64 hv h), by omega⟩
  have e : ((x : Int) % 128 * 2 ^ (7 * j)) = ((x % 128 * 128 ^ j : Nat) : Int) := by
    have := shl_eq (x % 128) j
    rw [← this]; simp
  rw [e]
  generalize x % 128 * 128 ^ j = y
  simp only [IntKind.wrap, IntKind.bits, IntKind.signed]
  simp
/-- what was put is what was taken: in the reference's words -/
theorem ref_same {l : List UInt8} {x : UInt8} {N : Nat} (h128 : ∀ y ∈ l, 128 ≤ y.toNat) (hx : x.toNat < 128) (hl : l.length ≤ 9) (hN : U64 N)
    (h1 : (l.length < 9 ∨ l.length = 9 ∧ x.toNat ≤ 1) → N = vval l + x.toNat % 128 * 128 ^ l.length)
    (h2 : N % 18446744073709551616 = (vval l + x.toNat % 128 * 128 ^ l.length) % 18446744073709551616) :
    vput N = l ++ [x] ↔ ¬ (0 < l.length ∧ x.toNat = 0) ∧ ¬ (l.length = 9 ∧ 1 < x.toNat) := by
  have hva := vval_append l x
  have hvl := vval_lt l
  constructor
  · intro h
    have hN2 : N = vval (l ++ [x]) := by rw [← h, vval_put]
    refine ⟨fun ⟨h0, hx0⟩ => ?_, fun ⟨h9, hx1⟩ => ?_⟩
    · rw [hx0] at hva
      have : N < 128 ^ l.length := by rw [hN2, hva]; omega
      have := vsize_lt this h0
      rw [← vput_len, h, List.length_append] at this
      simp at this
      omega
    · have := hN.lt
      rw [h9] at hva
      have : 2 * 128 ^ 9 ≤ x.toNat % 128 * 128 ^ 9 := Nat.mul_le_mul_right _ (by omega)
      omega
  · rintro ⟨h3, h4⟩
    have : N = vval (l ++ [x]) := by rw [hva]; exact h1 (by omega)
    rw [this]
    exact vput_val l x h128 hx (by
      rcases Nat.eq_zero_or_pos l.length with h | h
      · exact .inl (List.eq_nil_of_length_eq_zero h)
      · exact .inr fun hx0 => h3 ⟨h, hx0⟩)
end Go.Proofs.Ytcdnjhcddbkciaa
