/- An entry without where its bytes lie. -/
import Derived.Test.YtcdnjhcddbkciaaEntry
namespace Go.Proofs.Ytcdnjhcddbkciaa

/-- an entry without where its bytes lie -/
def EV.p (f : EV) : Int × List UInt8 := (f.term, f.b)
theorem alike_at {l l' : List EV} (h : l.map EV.p = l'.map EV.p) {j : Nat} (h1 : j < l.length) (h2 : j < l'.length) : l'[j].term = l[j].term ∧ l'[j].b = l[j].b := by
  have := congrArg (fun m => m[j]?) h
  simp only [List.getElem?_map, List.getElem?_eq_getElem h1, List.getElem?_eq_getElem h2, Option.map_some, Option.some.injEq, EV.p, Prod.mk.injEq] at this
  exact ⟨this.1.symm, this.2.symm⟩
/-- are two rows of entries the same -/
def entEq (l m : List EV) : Bool := decide (l.map EV.p = m.map EV.p)
theorem entEq_cons (a b : EV) (l m : List EV) : entEq (a :: l) (b :: m) = (decide (a.term = b.term) && (decide (a.b = b.b) && entEq l m)) := by
  unfold entEq
  simp only [List.map_cons, List.cons.injEq, EV.p, Prod.mk.injEq, Bool.decide_and, Bool.and_assoc]
theorem entEq_len {l m : List EV} (h : l.length ≠ m.length) : entEq l m = false := by
  unfold entEq
  have : ¬ l.map EV.p = m.map EV.p := fun e => by have := congrArg List.length e; simp at this; exact h this
  simp [this]
theorem entEq_nil : entEq [] [] = true := rfl
theorem entEq_iff {l m : List EV} : entEq l m = true ↔ l.map EV.p = m.map EV.p := by unfold entEq; simp
/-- a letter without where its bytes lie -/
def LV.p (x : LV) : (Int × Int × Int × Int × Int) × (Int × Int × Int × Bool) × List (Int × List UInt8) := ((x.kind, x.src, x.dst, x.term, x.bin), (x.a, x.b, x.c, x.ok), x.l.map EV.p)
/-- are two letters the same -/
def letEq (x y : LV) : Bool := decide (x.kind = y.kind) && (decide (x.src = y.src) && (decide (x.dst = y.dst) && (decide (x.term = y.term) && (decide (x.bin = y.bin) && (decide (x.a = y.a) && (decide (x.b = y.b) && (decide (x.c = y.c) && (decide (x.ok = y.ok) && entEq x.l y.l))))))))
theorem letEq_iff {x y : LV} : letEq x y = true ↔ x.p = y.p := by
  unfold letEq LV.p
  simp only [Bool.and_eq_true, decide_eq_true_eq, entEq_iff, Prod.mk.injEq]
  constructor
  · rintro ⟨h1, h2, h3, h4, h5, h6, h7, h8, h9, h10⟩; exact ⟨⟨h1, h2, h3, h4, h5⟩, ⟨h6, h7, h8, h9⟩, h10⟩
  · rintro ⟨⟨h1, h2, h3, h4, h5⟩, ⟨h6, h7, h8, h9⟩, h10⟩; exact ⟨h1, h2, h3, h4, h5, h6, h7, h8, h9, h10⟩
theorem letEq_refl (x : LV) : letEq x x = true := letEq_iff.2 rfl
theorem letEq_comm (x y : LV) : letEq y x = letEq x y := by
  rw [Bool.eq_iff_iff, letEq_iff, letEq_iff]; exact eq_comm
end Go.Proofs.Ytcdnjhcddbkciaa
