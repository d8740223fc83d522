/- Four rows of fields that grow side by side. -/
import Derived.Test.YtjfohlnkdagjcaaSplit
import Derived.Test.YtjfohlnkdagjcaaFormG
import Derived.Test.YtjfohlnkdagjcaaFnA
namespace Go.Proofs.Ytjfohlnkdagjcaa
open Go.RowKit

def p4 {α : Type} (a b c d : α) : Nat → α
  | 0 => a
  | 1 => b
  | 2 => c
  | _ => d
/-- four rows of the call's own, from block B on, each in a block of its own, none of them in G -/
structure Four (w : World) (B : Nat) (G : List Nat) (v : Nat → Value) (l : Nat → List FV) : Prop where
  own : ∀ i, i < 4 → w.ownsRow B 42 4 (v i) (l i).length (rowOf (l i))
  ap : ∀ i, i < 4 → ∀ j, j < 4 → i ≠ j → (v i).ownBlock = none ∨ (v i).ownBlock ≠ (v j).ownBlock
  ok : ∀ i, i < 4 → ∀ f ∈ l i, OwnF w B f
  far : ∀ i, i < 4 → ∀ g ∈ G, (v i).ownBlock ≠ some g
  lt : ∀ g ∈ G, g < w.heap.size
theorem Four.ext {w w' : World} {B : Nat} {G : List Nat} {v : Nat → Value} {l : Nat → List FV} (h : Four w B G v l) (he : Ext w w') : Four w' B G v l :=
  ⟨fun i hi => own_ext (h.own i hi) he, h.ap, fun i hi f hf => ⟨own_ext (h.ok i hi f hf).1 he, (h.ok i hi f hf).2⟩, h.far, fun g hg => Nat.lt_of_lt_of_le (h.lt g hg) he.size⟩
theorem Four.more {w w' : World} {B : Nat} {G G' : List Nat} {v : Nat → Value} {l : Nat → List FV} (h : Four w B G v l) (he : Ext w w') (hG : ∀ g ∈ G', w.heap.size ≤ g ∧ g < w'.heap.size) : Four w' B G' v l := by
  have h' := h.ext he
  refine ⟨h'.own, h'.ap, h'.ok, fun i hi g hg e => ?_, fun g hg => (hG g hg).2⟩
  have := ((h.own i hi).lt g e).2
  have := (hG g hg).1
  omega
theorem Four.eq {w : World} {B : Nat} {G : List Nat} {v v' : Nat → Value} {l l' : Nat → List FV} (h : Four w B G v l) (hv : ∀ k, k < 4 → v k = v' k) (hl : ∀ k, k < 4 → l k = l' k) : Four w B G v' l' :=
  ⟨fun i hi => by rw [← hv i hi, ← hl i hi]; exact h.own i hi, fun i hi j hj hne => by rw [← hv i hi, ← hv j hj]; exact h.ap i hi j hj hne, fun i hi f hf => h.ok i hi f (by rw [hl i hi]; exact hf), fun i hi g hg => by rw [← hv i hi]; exact h.far i hi g hg, h.lt⟩
theorem Four.app {w w' : World} {B : Nat} {G : List Nat} {v : Nat → Value} {l : Nat → List FV} (h : Four w B G v l) {i : Nat} (hi : i < 4) {v' : Value} {f : FV}
    (hg : w.grownBy w' (v i).ownBlock) (hat : v'.ownBlock = (v i).ownBlock ∨ v'.ownBlock = some w.heap.size) (hown : w'.ownsRow B 42 4 v' ((l i).length + 1) (rowOf (l i) ++ f.cells)) (hf : OwnF w B f) :
    Four w' B G (fun k => if k = i then v' else v k) (fun k => if k = i then l i ++ [f] else l k) := by
  have keepF : ∀ f, OwnF w B f → OwnF w' B f := fun f hf => ⟨hf.1.kept hg (own_apart hf.1 (h.own i hi) (by decide)), hf.2⟩
  refine ⟨fun k hk => ?_, fun k hk j hj hne => ?_, fun k hk f' hf' => ?_, fun k hk g hg' => ?_, fun g hg' => Nat.lt_of_lt_of_le (h.lt g hg') hg.size⟩
  · by_cases e : k = i
    · subst e
      simp only [if_true]
      exact own_to hown (Nat.le_refl _) (by simp) (by rw [rowOf_append, rowOf_one])
    · simp only [if_neg e]
      exact (h.own k hk).kept hg (h.ap k hk i hi e)
  · by_cases e : k = i
    · have e' : ¬ j = i := fun e2 => hne (e.trans e2.symm)
      subst e
      simp only [if_true, if_neg e']
      exact own_ne (apart_new (h.own j hj) (Nat.le_refl _) (h.ap j hj k hk e') hat)
    · simp only [if_neg e]
      by_cases e' : j = i
      · subst e'
        simp only [if_true]
        exact apart_new (h.own k hk) (Nat.le_refl _) (h.ap k hk j hj e) hat
      · simp only [if_neg e']
        exact h.ap k hk j hj hne
  · by_cases e : k = i
    · subst e
      simp only [if_true] at hf'
      rcases List.mem_append.1 hf' with h1 | h1
      · exact keepF _ (h.ok k hk f' h1)
      · simp only [List.mem_singleton] at h1
        subst h1
        exact keepF _ hf
    · simp only [if_neg e] at hf'
      exact keepF _ (h.ok k hk f' hf')
  · by_cases e : k = i
    · subst e
      simp only [if_true]
      rcases hat with h1 | h1
      · rw [h1]; exact h.far k hk g hg'
      · rw [h1]
        intro e2
        injection e2 with e2
        have := h.lt g hg'
        omega
    · simp only [if_neg e]
      exact h.far k hk g hg'
theorem lt4 {k : Nat} (h : k < 4) : k = 0 ∨ k = 1 ∨ k = 2 ∨ k = 3 := by omega
section
variable {w w' : World} {B : Nat} {G : List Nat} {a b c d v' : Value} {x y z u : List FV} {f : FV}
theorem Four.app0 (h : Four w B G (p4 a b c d) (p4 x y z u)) (hg : w.grownBy w' a.ownBlock) (hat : v'.ownBlock = a.ownBlock ∨ v'.ownBlock = some w.heap.size) (hown : w'.ownsRow B 42 4 v' (x.length + 1) (rowOf x ++ f.cells)) (hf : OwnF w B f) :
    Four w' B G (p4 v' b c d) (p4 (x ++ [f]) y z u) :=
  (h.app (i := 0) (by omega) hg hat hown hf).eq (fun k hk => by rcases lt4 hk with rfl | rfl | rfl | rfl <;> rfl) (fun k hk => by rcases lt4 hk with rfl | rfl | rfl | rfl <;> rfl)
theorem Four.app1 (h : Four w B G (p4 a b c d) (p4 x y z u)) (hg : w.grownBy w' b.ownBlock) (hat : v'.ownBlock = b.ownBlock ∨ v'.ownBlock = some w.heap.size) (hown : w'.ownsRow B 42 4 v' (y.length + 1) (rowOf y ++ f.cells)) (hf : OwnF w B f) :
    Four w' B G (p4 a v' c d) (p4 x (y ++ [f]) z u) :=
  (h.app (i := 1) (by omega) hg hat hown hf).eq (fun k hk => by rcases lt4 hk with rfl | rfl | rfl | rfl <;> rfl) (fun k hk => by rcases lt4 hk with rfl | rfl | rfl | rfl <;> rfl)
theorem Four.app2 (h : Four w B G (p4 a b c d) (p4 x y z u)) (hg : w.grownBy w' c.ownBlock) (hat : v'.ownBlock = c.ownBlock ∨ v'.ownBlock = some w.heap.size) (hown : w'.ownsRow B 42 4 v' (z.length + 1) (rowOf z ++ f.cells)) (hf : OwnF w B f) :
    Four w' B G (p4 a b v' d) (p4 x y (z ++ [f]) u) :=
  (h.app (i := 2) (by omega) hg hat hown hf).eq (fun k hk => by rcases lt4 hk with rfl | rfl | rfl | rfl <;> rfl) (fun k hk => by rcases lt4 hk with rfl | rfl | rfl | rfl <;> rfl)
theorem Four.app3 (h : Four w B G (p4 a b c d) (p4 x y z u)) (hg : w.grownBy w' d.ownBlock) (hat : v'.ownBlock = d.ownBlock ∨ v'.ownBlock = some w.heap.size) (hown : w'.ownsRow B 42 4 v' (u.length + 1) (rowOf u ++ f.cells)) (hf : OwnF w B f) :
    Four w' B G (p4 a b c v') (p4 x y z (u ++ [f])) :=
  (h.app (i := 3) (by omega) hg hat hown hf).eq (fun k hk => by rcases lt4 hk with rfl | rfl | rfl | rfl <;> rfl) (fun k hk => by rcases lt4 hk with rfl | rfl | rfl | rfl <;> rfl)
end
theorem Four.blk {w w' : World} {B : Nat} {G : List Nat} {v : Nat → Value} {l : Nat → List FV} (h : Four w B G v l) {i : Nat} (hi : i < 4) (hg : w.grownBy w' (v i).ownBlock) {g : Nat} (hG : g ∈ G) {t : TypeId} {cs : List Value} (hb : Blk w g t cs) : Blk w' g t cs :=
  hb.grown hg (fun e => h.far i hi g hG e.symm)
end Go.Proofs.Ytjfohlnkdagjcaa
