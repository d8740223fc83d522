/- Parts of slices, as one step of a walk. No program in sight. -/
import Derived.Test.YtcdnjhcddbkciaaBase
namespace Go.Proofs.Ytcdnjhcddbkciaa
open Go.RowKit

theorem elem_of {P : Program} {t e : TypeId} (h : P.underlying t = some (.slice e)) : P.elem t = e := by
  simp [Program.elem, h]

theorem run_slice_at {P : Program} {t e : TypeId} {size bytes : Nat} (T : SliceT P t e size bytes) (A : Option Addr) (n c lo : Nat) (hlo : lo ≤ n) (x : Int) (hx : x = lo) (w : World) :
    (Instr.slice t (.slice A n c) (some (.int .i64 x)) none none).run P w = .ok (.slice (if c = lo then A else A.map (·.add (lo * size))) (n - lo) (c - lo)) w := by
  obtain ⟨i, z, hi, hz, hz1, hz2, hz3⟩ := T.info
  subst hx
  have := run_slice_l (P := P) w t A n c (by rw [elem_of T.ht]; exact T.ht) .i64 (lo : Int) (by omega) (by omega)
  rw [this, elem_of T.ht]
  simp [sizeOf, typeInfo, hi, hz1, sliced, Result.andThen]

/-- x[lo:] -/
theorem cut_from {P : Program} {t e : TypeId} {size bytes : Nat} (T : SliceT P t e size bytes) (A : Option Addr) {n c lo : Nat} (hlo : lo ≤ n) (hnc : n ≤ c) (x : Int) (hx : x = lo) :
    ∃ A' c', n - lo ≤ c' ∧ (∀ w, (Instr.slice t (.slice A n c) (some (.int .i64 x)) none none).run P w = .ok (.slice A' (n - lo) c') w) ∧ ∀ w xs, Rd w A n size xs → Rd w A' (n - lo) size (xs.drop (lo * size)) :=
  ⟨_, _, by omega, run_slice_at T A n c lo hlo x hx, fun w xs h => by
    have := h.part (lo := lo) (m := n - lo) (by omega) (if c = lo then A else A.map (·.add (lo * size))) (fun hp b off e => by
      rw [if_neg (by omega), e]; simp [plain_add])
    rwa [List.take_of_length_le (by rw [List.length_drop, h.1, Nat.sub_mul]; omega)] at this⟩

/-- b[lo:] of bytes -/
theorem cut_bytes {P : Program} {t e : TypeId} (T : SliceT P t e 1 1) (A : Option Addr) {n c lo : Nat} (hlo : lo ≤ n) (hnc : n ≤ c) (x : Int) (hx : x = lo) :
    ∃ A' c', n - lo ≤ c' ∧ (∀ w, (Instr.slice t (.slice A n c) (some (.int .i64 x)) none none).run P w = .ok (.slice A' (n - lo) c') w) ∧ ∀ w l, Bs w A n l → Bs w A' (n - lo) (l.drop lo) := by
  obtain ⟨A', c', h1, h2, h3⟩ := cut_from T A hlo hnc x hx
  exact ⟨A', c', h1, h2, fun w l h => by have := h3 w _ h; simpa [Bs, List.map_drop] using this⟩

theorem run_slice_at2 {P : Program} {t e : TypeId} {size bytes : Nat} (T : SliceT P t e size bytes) (A : Option Addr) (n c lo hi : Nat) (hlo : lo ≤ hi) (hhi : hi ≤ c) (x y : Int) (hx : x = lo) (hy : y = hi) (w : World) :
    (Instr.slice t (.slice A n c) (some (.int .i64 x)) (some (.int .i64 y)) none).run P w = .ok (.slice (if c = lo then A else A.map (·.add (lo * size))) (hi - lo) (c - lo)) w := by
  obtain ⟨i, z, hi', hz, hz1, hz2, hz3⟩ := T.info
  subst hx hy
  have := run_slice_lh (P := P) w t A n c (by rw [elem_of T.ht]; exact T.ht) .i64 .i64 (lo : Int) (hi : Int) (by omega) (by omega) (by omega)
  rw [this, elem_of T.ht]
  simp [sizeOf, typeInfo, hi', hz1, sliced, Result.andThen]

/-- b[lo:hi] of bytes -/
theorem cut_bytes2 {P : Program} {t e : TypeId} (T : SliceT P t e 1 1) (A : Option Addr) {n c lo hi : Nat} (hlo : lo ≤ hi) (hhi : hi ≤ n) (hnc : n ≤ c) (x y : Int) (hx : x = lo) (hy : y = hi) :
    ∃ A' c', hi - lo ≤ c' ∧ (∀ w, (Instr.slice t (.slice A n c) (some (.int .i64 x)) (some (.int .i64 y)) none).run P w = .ok (.slice A' (hi - lo) c') w) ∧ ∀ w l, Bs w A n l → Bs w A' (hi - lo) ((l.drop lo).take (hi - lo)) :=
  ⟨_, _, by omega, run_slice_at2 T A n c lo hi hlo (by omega) x y hx hy, fun w l h => h.part (by omega) _ (fun hp b off e => by
    rw [if_neg (by omega), e]; simp [plain_add])⟩
end Go.Proofs.Ytcdnjhcddbkciaa
