/- Words and walks that the last text of this claim stands on: Grow. No condition. -/
import Derived.Test.YtcoaofaofmbfbaaB01
/- A row of the call's own that was made ahead of others: what its growth leaves alone. No program in sight. -/
namespace Go.Proofs.Ytcoaofaofmbfbaa
open Go.RowKit

theorem grownBy_ext {w w' : World} (h : Ext w w') (row : Option Nat) : w.grownBy w' row :=
  ⟨h.os, h.tape, h.output, h.size, fun k hk _ => h.block k hk⟩
/-- from w1 on nothing old but block g0 has turned; v is nil, lies in g0, or is new -/
structure Grow (g0 : Nat) (w1 w : World) (v : Value) : Prop where
  by_ : w1.grownBy w (some g0)
  own : ∀ k, v.ownBlock = some k → k = g0 ∨ w1.heap.size ≤ k
theorem Grow.start (g0 : Nat) (w1 : World) {v : Value} (h : ∀ k, v.ownBlock = some k → k = g0 ∨ w1.heap.size ≤ k) : Grow g0 w1 w1 v := ⟨World.grownBy.refl w1 _, h⟩
theorem Grow.ext {g0 : Nat} {w1 w w' : World} {v : Value} (h : Grow g0 w1 w v) (he : Ext w w') : Grow g0 w1 w' v :=
  ⟨⟨he.os.trans h.by_.os, he.tape.trans h.by_.tape, he.output.trans h.by_.output, Nat.le_trans h.by_.size he.size, fun k hk hne => (he.block k (Nat.lt_of_lt_of_le hk h.by_.size)).trans (h.by_.block k hk hne)⟩, h.own⟩
theorem Grow.app {g0 : Nat} {w1 w w' : World} {v v' : Value} (h : Grow g0 w1 w v) (hg : w.grownBy w' v.ownBlock) (hat : v'.ownBlock = v.ownBlock ∨ v'.ownBlock = some w.heap.size) : Grow g0 w1 w' v' := by
  refine ⟨⟨hg.os.trans h.by_.os, hg.tape.trans h.by_.tape, hg.output.trans h.by_.output, Nat.le_trans h.by_.size hg.size, fun k hk hne => ?_⟩, fun k hk => ?_⟩
  · refine (hg.block k (Nat.lt_of_lt_of_le hk h.by_.size) ?_).trans (h.by_.block k hk hne)
    intro e
    rcases h.own k e.symm with rfl | h2
    · exact hne rfl
    · omega
  · rcases hat with e | e
    · exact h.own k (e ▸ hk)
    · rw [hk] at e
      injection e with e
      have := h.by_.size
      exact .inr (by omega)
theorem Grow.cell {g0 : Nat} {w1 w : World} {v : Value} (h : Grow g0 w1 w v) {p : Addr} {u : Value} (hc : w1.cell? p = some u) (hp : p.block ≠ g0) : w.cell? p = some u :=
  (World.cell?_of_block (h.by_.block p.block (World.block_lt_of_cell? w1 p hc) (by intro e; injection e with e; exact hp e))).trans hc
theorem Grow.rd {g0 : Nat} {w1 w : World} {v : Value} (h : Grow g0 w1 w v) {A : Option Addr} {n size : Nat} {xs : List Value} (hr : Rd w1 A n size xs) (hb : ∀ b off, A = some ⟨b, off, none⟩ → b ≠ g0) : Rd w A n size xs :=
  ⟨hr.1, fun hn => by
    obtain ⟨b, off, e, hlt, hc⟩ := hr.2 hn
    exact ⟨b, off, e, Nat.lt_of_lt_of_le hlt h.by_.size, fun j u hu => h.cell (hc j u hu) (hb b off e)⟩⟩
/-- all that was there ahead of g0 is as it was -/
theorem Grow.below {g0 : Nat} {w0 w1 w : World} {v : Value} (h : Grow g0 w1 w v) (hx : Ext w0 w1) (hg : w0.heap.size ≤ g0) : Ext w0 w :=
  ⟨h.by_.os.trans hx.os, h.by_.tape.trans hx.tape, h.by_.output.trans hx.output, Nat.le_trans hx.size h.by_.size, fun k hk => (h.by_.block k (Nat.lt_of_lt_of_le hk hx.size) (by intro e; injection e with e; omega)).trans (hx.block k hk)⟩
theorem own_lt {w : World} {base : Nat} {e : TypeId} {size n c b off : Nat} {xs : List Value} (h : w.ownsRow base e size (.slice (some ⟨b, off, none⟩) n c) n xs) : base ≤ b := by
  rcases h.2 with ⟨hv, _⟩ | ⟨g, cap, cur, hv, hb, _⟩
  · cases hv
  · injection hv with hv; injection hv with hv; injection hv with hv; omega
end Go.Proofs.Ytcoaofaofmbfbaa
