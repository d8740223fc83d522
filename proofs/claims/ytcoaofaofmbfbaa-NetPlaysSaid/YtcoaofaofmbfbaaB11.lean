/- Words and walks that the last text of this claim stands on: OwnG. No condition. -/
import Derived.Test.YtcoaofaofmbfbaaB06
import Derived.Test.YtcoaofaofmbfbaaB04
/- Rows of the call's own beside one that grows. -/
namespace Go.Proofs.Ytcoaofaofmbfbaa
open Go.RowKit

theorem own_grown {w w' : World} {base : Nat} {e : TypeId} {size n : Nat} {v : Value} {xs : List Value} {row : Option Nat} (h : w.ownsRow base e size v n xs) (hg : w.grownBy w' row) (hr : v.ownBlock = none ∨ v.ownBlock ≠ row) : w'.ownsRow base e size v n xs := by
  refine ⟨h.1, ?_⟩
  rcases h.2 with hn | ⟨g, cap, cur, rfl, hb, hgg, rest⟩
  · exact .inl hn
  · refine .inr ⟨g, cap, cur, rfl, hb, ?_, rest⟩
    rw [hg.block g (Array.getElem?_eq_some_iff.1 hgg).1 (by rcases hr with hr | hr <;> simp [Value.ownBlock] at hr ⊢; exact hr)]
    exact hgg
theorem OwnF.ext {w w' : World} {B : Nat} {f : FV} (h : OwnF w B f) (he : Ext w w') : OwnF w' B f := ⟨own_ext h.1 he, h.2⟩
theorem OwnF.to {w : World} {B B' : Nat} {f : FV} (h : OwnF w B f) (hB : B' ≤ B) : OwnF w B' f := ⟨own_base h.1 hB, h.2⟩
theorem OwnF.grown {w w' : World} {B B' : Nat} {f : FV} {v : Value} {n : Nat} {xs : List Value} (h : OwnF w B f) (hv : w.ownsRow B' 75 4 v n xs) (hg : w.grownBy w' v.ownBlock) : OwnF w' B f :=
  ⟨own_grown h.1 hg (own_apart h.1 hv (by decide)), h.2⟩
/-- a row of fields that are the call's own, as well as their bytes -/
structure OwnR (w : World) (B : Nat) (v : Value) (d : List FV) : Prop where
  row : w.ownsRow B 75 4 v d.length (rowOf d)
  own : ∀ f ∈ d, OwnF w B f
theorem OwnR.ext {w w' : World} {B : Nat} {v : Value} {d : List FV} (h : OwnR w B v d) (he : Ext w w') : OwnR w' B v d := ⟨own_ext h.row he, fun f hf => (h.own f hf).ext he⟩
theorem OwnR.to {w : World} {B B' : Nat} {v : Value} {d : List FV} (h : OwnR w B v d) (hB : B' ≤ B) : OwnR w B' v d := ⟨own_base h.row hB, fun f hf => (h.own f hf).to hB⟩
/-- a field more -/
theorem OwnR.app {w w' : World} {B : Nat} {v v' : Value} {d : List FV} {f : FV} (h : OwnR w B v d) (hf : OwnF w B f) (hg : w.grownBy w' v.ownBlock) (hown : w'.ownsRow B 75 4 v' (d.length + 1) (rowOf d ++ f.cells)) : OwnR w' B v' (d ++ [f]) := by
  refine ⟨own_to hown (Nat.le_refl _) (by simp) (by rw [rowOf_append, rowOf_one]), fun g hg' => ?_⟩
  rcases List.mem_append.1 hg' with hg' | hg'
  · exact (h.own g hg').grown h.row hg
  · simp only [List.mem_singleton] at hg'
    subst hg'; exact hf.grown h.row hg
theorem OwnR.fs {w : World} {B : Nat} {A : Option Addr} {n c : Nat} {d : List FV} (h : OwnR w B (.slice A n c) d) (hn : n = d.length) : Fs w A n d := by
  subst hn; exact Fs.of_own h.row fun f hf => (h.own f hf).ok
theorem OwnF.set {w : World} {B : Nat} {f : FV} (h : OwnF w B f) {p : Addr} (hp : p.block < B) (u : Value) : OwnF (w.setCell p u) B f := ⟨own_set h.1 hp u, h.2⟩
theorem OwnR.set {w : World} {B : Nat} {v : Value} {d : List FV} (h : OwnR w B v d) {p : Addr} (hp : p.block < B) (u : Value) : OwnR (w.setCell p u) B v d := ⟨own_set h.row hp u, fun f hf => (h.own f hf).set hp u⟩
end Go.Proofs.Ytcoaofaofmbfbaa
