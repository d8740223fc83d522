/- The walk of few of layer 3's laws. -/
import Derived.Test.YtiildgoaiookhaaTlvN
namespace Go.Proofs.Ytiildgoaiookhaa
open Go.RowKit

theorem fieldsT : SliceT Try.prog 48 96 4 48 := .mk' Try.underlying48 (z := .agg #[.int .i64 0, .int .i64 0, .int .u64 0, .slice none 0 0]) (by kernel_rfl) rfl

/-- a field with at most k bytes -/
def cutF (k : Nat) (f : FV) : FV := if k < f.len then { f with len := k, b := f.b.take k } else f
theorem cutF_ok {k : Nat} {f : FV} {w : World} (h : f.Ok w) : (cutF k f).Ok w := by
  unfold cutF
  split
  · exact ⟨h.bs.upto (hi := k) (by omega), by have := h.le; dsimp only; omega, h.cap, h.u⟩
  · exact h
/-- at most 60 fields, of 300 bytes each, but the first, of 17000 -/
def fewAt (i : Nat) (f : FV) : FV := if i = 0 then cutF 17000 f else cutF 300 f
def fewL (l : List FV) : List FV := (l.take 60).mapIdx fewAt
theorem fewL_len (l : List FV) : (fewL l).length = min 60 l.length := by simp [fewL]
theorem fewL_snoc (l : List FV) (j : Nat) (h : j < l.length) (h60 : j < 60) : (fewL l).take (j + 1) = (fewL l).take j ++ [fewAt j l[j]] := by
  have hl : j < (fewL l).length := by rw [fewL_len]; omega
  rw [List.take_succ_eq_append_getElem hl]
  congr 2
  simp [fewL]

theorem rd_new4 (w : World) (a b c d : Value) (t : TypeId) : Rd (w.alloc (.cells #[a, b, c, d] t)) (some ⟨w.heap.size, 0, none⟩) 1 4 [a, b, c, d] := Rd.block w #[a, b, c, d] t 1 rfl
theorem rd_at4 (w : World) (a b c d : Value) (t : TypeId) (k : Nat) (hk : k = w.heap.size) : Rd (w.alloc (.cells #[a, b, c, d] t)) (some ⟨k, 0, none⟩) 1 4 [a, b, c, d] := hk ▸ rd_new4 w a b c d t
theorem fcells_one (num wire : Int) (n : Nat) (A : Option Addr) (len cap : Nat) : ∀ u ∈ [Value.int .i64 num, .int .i64 wire, .int .u64 n, .slice A len cap], u.oneCell' = true := by
  intro u hu
  simp only [List.mem_cons, List.not_mem_nil, or_false] at hu
  rcases hu with rfl | rfl | rfl | rfl <;> rfl

end Go.Proofs.Ytiildgoaiookhaa
