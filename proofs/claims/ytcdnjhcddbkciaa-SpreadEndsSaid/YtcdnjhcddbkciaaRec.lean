/- A record of a disk as a value, and a row of them in memory. No program in sight. -/
import Derived.Test.YtcdnjhcddbkciaaEntry
import Derived.Test.YtcdnjhcddbkciaaField
namespace Go.Proofs.Ytcdnjhcddbkciaa
open Go.RowKit Go.Deep

/-- a record: its kind, two numbers, bytes and where they lie -/
structure RV where
  kind : Int
  a : Int
  b : Int
  A : Option Addr
  len : Nat
  cap : Nat
  x : List UInt8
def RV.cells (f : RV) : List Value := [.int .i64 f.kind, .int .i64 f.a, .int .i64 f.b, .slice f.A f.len f.cap]
def RV.val (f : RV) : Value := .agg #[.int .i64 f.kind, .int .i64 f.a, .int .i64 f.b, .slice f.A f.len f.cap]
structure RV.Ok (f : RV) (w : World) : Prop where
  bs : Bs w f.A f.len f.x
  le : f.len ≤ f.cap
  cap : f.cap ≤ maxLen
theorem RV.Ok.ext {f : RV} {w w' : World} (h : f.Ok w) (he : Ext w w') : f.Ok w' := ⟨h.bs.ext he, h.le, h.cap⟩
theorem RV.cells_one (f : RV) : ∀ u ∈ f.cells, u.oneCell' = true := by
  intro u hu
  simp only [RV.cells, List.mem_cons, List.not_mem_nil, or_false] at hu
  rcases hu with rfl | rfl | rfl | rfl <;> rfl
def recOf (l : List RV) : List Value := (l.map RV.cells).flatten
theorem recOf_len (l : List RV) : (recOf l).length = l.length * 4 := by
  have := flatten_len (size := 4) (l.map RV.cells) (by intro r hr; obtain ⟨f, _, rfl⟩ := List.mem_map.1 hr; rfl)
  simpa [recOf] using this
theorem recOf_get (l : List RV) (i k : Nat) (hi : i < l.length) (hk : k < 4) : (recOf l)[i * 4 + k]? = (l[i]).cells[k]? := by
  have := flatten_get (size := 4) (l.map RV.cells) (by intro r hr; obtain ⟨f, _, rfl⟩ := List.mem_map.1 hr; rfl) i k hk
  rw [recOf, this, List.getElem?_map, List.getElem?_eq_getElem hi]; rfl
theorem recOf_append (l m : List RV) : recOf (l ++ m) = recOf l ++ recOf m := by simp [recOf]
theorem recOf_one (f : RV) : recOf [f] = f.cells := by simp [recOf]
theorem recOf_nil : recOf [] = [] := rfl

/-- The slice of n records at A reads as l, whose bytes lie there. -/
structure Rs (w : World) (A : Option Addr) (n : Nat) (l : List RV) : Prop where
  rd : Rd w A n 4 (recOf l)
  ok : ∀ f ∈ l, f.Ok w
section
variable {w w' : World} {A : Option Addr} {n : Nat} {l : List RV}
theorem Rs.len (h : Rs w A n l) : l.length = n := by
  have := h.rd.1; rw [recOf_len] at this; omega
theorem Rs.ext (h : Rs w A n l) (he : Ext w w') : Rs w' A n l := ⟨h.rd.ext he, fun f hf => (h.ok f hf).ext he⟩
theorem Rs.nil_ (w : World) (A : Option Addr) : Rs w A 0 [] := ⟨Rd.nil_ w A 4, by simp⟩
theorem Rs.at_ (h : Rs w A n l) {i : Nat} (hi : i < n) : ∃ b off, A = some ⟨b, off, none⟩ ∧
    w.cell? ⟨b, off + i * 4, none⟩ = some (.int .i64 (l[i]'(by rw [h.len]; exact hi)).kind) ∧ w.cell? ⟨b, off + i * 4 + 1, none⟩ = some (.int .i64 (l[i]'(by rw [h.len]; exact hi)).a) ∧
    w.cell? ⟨b, off + i * 4 + 2, none⟩ = some (.int .i64 (l[i]'(by rw [h.len]; exact hi)).b) ∧
    w.cell? ⟨b, off + i * 4 + 3, none⟩ = some (.slice (l[i]'(by rw [h.len]; exact hi)).A (l[i]'(by rw [h.len]; exact hi)).len (l[i]'(by rw [h.len]; exact hi)).cap) := by
  obtain ⟨b, off, e, _, hc⟩ := h.rd.2 (by omega)
  have hl := h.len
  have g := fun k hk => recOf_get l i k (by omega) hk
  refine ⟨b, off, e, ?_, ?_, ?_, ?_⟩
  · have := hc (i * 4 + 0) _ (g 0 (by omega)); exact this
  · have := hc (i * 4 + 1) _ (g 1 (by omega)); exact this
  · have := hc (i * 4 + 2) _ (g 2 (by omega)); exact this
  · have := hc (i * 4 + 3) _ (g 3 (by omega)); exact this
theorem Rs.of_own {base : Nat} {e : TypeId} {c : Nat} (h : w.ownsRow base e 4 (.slice A n c) n (recOf l)) (ho : ∀ f ∈ l, f.Ok w) : Rs w A n l := ⟨Rd.of_own h, ho⟩
end

/-- a vote, noted -/
def voteR (t who : Int) : RV := ⟨2, t, who, none, 0, 0, []⟩
theorem voteR_ok (t who : Int) (w : World) : (voteR t who).Ok w := ⟨Bs.nil_ _ _, Nat.le_refl _, by simp [voteR, maxLen]⟩
/-- what is saved to a greater term -/
def newerL (st t : Int) : List RV := if t ≤ st then [] else [voteR t 0]
theorem newerL_ok (st t : Int) (w : World) : ∀ f ∈ newerL st t, f.Ok w := by
  intro f hf
  unfold newerL at hf
  split at hf
  · simp at hf
  · simp only [List.mem_singleton] at hf; subst hf; exact voteR_ok _ _ _
/-- an entry with at most k bytes -/
def cutE (k : Nat) (f : EV) : EV := if k < f.len then { f with len := k, b := f.b.take k } else f
theorem cutE_ok {k : Nat} {f : EV} {w : World} (h : f.Ok w) : (cutE k f).Ok w := by
  unfold cutE
  split
  · exact ⟨h.bs.upto (hi := k) (by omega), by have := h.le; dsimp only; omega, h.cap, h.u⟩
  · exact h
theorem cutE_len (k : Nat) (f : EV) : (cutE k f).len ≤ k := by
  unfold cutE; split
  · exact Nat.le_refl _
  · omega
theorem cutE_term (k : Nat) (f : EV) : (cutE k f).term = f.term := by unfold cutE; split <;> rfl
/-- at most m entries, of at most k bytes -/
def cutL (m k : Nat) (l : List EV) : List EV := (l.take m).map (cutE k)
theorem cutL_len (m k : Nat) (l : List EV) : (cutL m k l).length = min m l.length := by simp [cutL]
theorem cutL_snoc (m k : Nat) (l : List EV) (j : Nat) (h : j < l.length) (hm : j < m) : (cutL m k l).take (j + 1) = (cutL m k l).take j ++ [cutE k l[j]] := by
  have hl : j < (cutL m k l).length := by rw [cutL_len]; omega
  rw [List.take_succ_eq_append_getElem hl]
  congr 2
  simp [cutL]
theorem cutL_ok {m k : Nat} {l : List EV} {w : World} (h : ∀ f ∈ l, f.Ok w) : ∀ f ∈ cutL m k l, f.Ok w := by
  intro f hf
  obtain ⟨g, hg, rfl⟩ := List.mem_map.1 hf
  exact cutE_ok (h g (List.mem_of_mem_take hg))

theorem blk_own (w : World) (cs : Array Value) (t : TypeId) (size n : Nat) (hl : cs.size = n * size) (hn : n ≤ 1000) {B : Nat} (hB : B ≤ w.heap.size) (k : Nat) (hk : k = w.heap.size) : (w.alloc (.cells cs t)).ownsRow B t size (.slice (some ⟨k, 0, none⟩) n n) n cs.toList := by
  subst hk
  have h : Blk (w.alloc (.cells cs t)) w.heap.size t cs.toList := by
    have := Blk.new w t cs.toList
    simpa using this
  exact h.own hB (by simpa using hl) (by unfold maxLen; omega)
theorem own_set {w : World} {base : Nat} {e : TypeId} {size n : Nat} {v : Value} {xs : List Value} (h : w.ownsRow base e size v n xs) {p : Addr} (hp : p.block < base) (u : Value) : (w.setCell p u).ownsRow base e size v n xs := by
  refine ⟨h.1, ?_⟩
  rcases h.2 with hn | ⟨g, cap, cur, rfl, hb, hgg, rest⟩
  · exact .inl hn
  · exact .inr ⟨g, cap, cur, rfl, hb, (heap_setCell_other w p g u (by omega)).trans hgg, rest⟩
theorem rd_at2 (w : World) (a b : Value) (t : TypeId) (k : Nat) (hk : k = w.heap.size) : Rd (w.alloc (.cells #[a, b] t)) (some ⟨k, 0, none⟩) 1 2 [a, b] := hk ▸ Rd.block w #[a, b] t 1 rfl
theorem ecells_one (t : Int) (A : Option Addr) (len cap : Nat) : ∀ u ∈ [Value.int .i64 t, .slice A len cap], u.oneCell' = true := by
  intro u hu
  simp only [List.mem_cons, List.not_mem_nil, or_false] at hu
  rcases hu with rfl | rfl <;> rfl
end Go.Proofs.Ytcdnjhcddbkciaa
