/- Words for memory that is written in place: a world less some blocks. No program in sight. -/
import Derived.Test.YtcdnjhcddbkciaaRec
namespace Go.Proofs.Ytcdnjhcddbkciaa
open Go.RowKit

/-- the world without the blocks that F names -/
def mask (F : Nat → Bool) (w : World) : World := { w with heap := w.heap.mapIdx fun i o => if F i then .cells #[] 0 (0, 0) else o }
theorem mask_size (F : Nat → Bool) (w : World) : (mask F w).heap.size = w.heap.size := by simp [mask]
theorem mask_at (F : Nat → Bool) (w : World) (k : Nat) : (mask F w).heap[k]? = (w.heap[k]?).map fun o => if F k then .cells #[] 0 (0, 0) else o := by
  simp [mask]
theorem mask_block {F : Nat → Bool} (w : World) {k : Nat} (h : F k = false) : (mask F w).heap[k]? = w.heap[k]? := by
  rw [mask_at, h]; simp
theorem mask_cell {F : Nat → Bool} {w : World} {p : Addr} {v : Value} (h : (mask F w).cell? p = some v) : w.cell? p = some v := by
  by_cases hF : F p.block = true
  · exfalso
    unfold World.cell? at h
    rw [mask_at, hF] at h
    cases hb : w.heap[p.block]? with
    | none => rw [hb] at h; simp at h
    | some o => rw [hb] at h; simp at h
  · rw [← World.cell?_of_block (mask_block w (by simpa using hF))]; exact h
/-- what is written is named by F -/
structure Fr (F : Nat → Bool) (w w' : World) : Prop where
  os : w'.os = w.os
  tape : w'.tape = w.tape
  output : w'.output = w.output
  size : w.heap.size ≤ w'.heap.size
  block : ∀ k, k < w.heap.size → F k = false → w'.heap[k]? = w.heap[k]?
theorem Fr.refl (F : Nat → Bool) (w : World) : Fr F w w := ⟨rfl, rfl, rfl, Nat.le_refl _, fun _ _ _ => rfl⟩
theorem Fr.of_ext {w w' : World} (h : Ext w w') (F : Nat → Bool) : Fr F w w' := ⟨h.os, h.tape, h.output, h.size, fun k hk _ => h.block k hk⟩
theorem Fr.trans {F : Nat → Bool} {a b c : World} (h : Fr F a b) (k : Fr F b c) : Fr F a c :=
  ⟨k.os.trans h.os, k.tape.trans h.tape, k.output.trans h.output, Nat.le_trans h.size k.size, fun i hi hf => (k.block i (Nat.lt_of_lt_of_le hi h.size) hf).trans (h.block i hi hf)⟩
theorem Fr.mono {F G : Nat → Bool} {a b : World} (h : Fr F a b) (hFG : ∀ k, k < a.heap.size → F k = true → G k = true) : Fr G a b :=
  ⟨h.os, h.tape, h.output, h.size, fun i hi hf => h.block i hi (by cases e : F i with | false => rfl | true => rw [hFG i hi e] at hf; cases hf)⟩
theorem Fr.grown {F : Nat → Bool} {w w' : World} {row : Option Nat} (hg : w.grownBy w' row) (hr : ∀ k, row = some k → F k = true) : Fr F w w' :=
  ⟨hg.os, hg.tape, hg.output, hg.size, fun i hi hf => hg.block i hi (fun e => by rw [hr i e.symm] at hf; cases hf)⟩
theorem Fr.setCell {F : Nat → Bool} (w : World) {p : Addr} (hp : F p.block = true) (u : Value) : Fr F w (w.setCell p u) :=
  ⟨rfl, rfl, rfl, by simp [World.setCell], fun k _ hf => Below.heap_setCell _ _ _ _ (fun e => by rw [e, hp] at hf; cases hf)⟩
theorem Fr.alloc (F : Nat → Bool) (w : World) (o : Obj) : Fr F w (w.alloc o) := .of_ext ((Ext.refl w).alloc o) F
theorem Fr.drew (F : Nat → Bool) (w : World) : Fr F w w.drew := ⟨rfl, rfl, rfl, Nat.le_refl _, fun _ _ _ => rfl⟩
theorem Fr.below {F : Nat → Bool} {a w w' : World} (h : Fr F w w') {B : Nat} (hx : Below B a w) (hB : B ≤ w.heap.size) (hF : ∀ k, F k = true → B ≤ k) : Below B a w' :=
  Below.trans hx ⟨h.os, h.tape, h.output, h.size, fun k hk => h.block k (by omega) (by cases e : F k with | false => rfl | true => have := hF k e; omega)⟩
theorem Fr.masks {F F' : Nat → Bool} {w w' : World} (h : Fr F w w') (hF : ∀ k, k < w.heap.size → F' k = F k) : Ext (mask F w) (mask F' w') := by
  refine ⟨h.os, h.tape, h.output, by rw [mask_size, mask_size]; exact h.size, fun k hk => ?_⟩
  rw [mask_size] at hk
  rw [mask_at, mask_at, hF k hk]
  have h1 : k < w'.heap.size := Nat.lt_of_lt_of_le hk h.size
  by_cases e : F k = true
  · rw [Array.getElem?_eq_getElem hk, Array.getElem?_eq_getElem h1]; simp [e]
  · have e' : F k = false := by simpa using e
    rw [h.block k hk e']
theorem Ext.masks {w w' : World} (h : Ext w w') {F : Nat → Bool} : Ext (mask F w) (mask F w') := (Fr.of_ext h F).masks fun _ _ => rfl
theorem Ext.masked {a w : World} (h : Ext a w) {F : Nat → Bool} (hF : ∀ k, F k = true → a.heap.size ≤ k) : Ext a (mask F w) :=
  ⟨h.os, h.tape, h.output, by rw [mask_size]; exact h.size, fun k hk => (mask_block w (by cases e : F k with | false => rfl | true => have := hF k e; omega)).trans (h.block k hk)⟩
theorem Rd.unmask {F : Nat → Bool} {w : World} {A : Option Addr} {n s : Nat} {xs : List Value} (h : Rd (mask F w) A n s xs) : Rd w A n s xs :=
  h.keep (by rw [mask_size]; exact Nat.le_refl _) fun _ _ hc => mask_cell hc
theorem EV.Ok.unmask {F : Nat → Bool} {w : World} {y : EV} (h : y.Ok (mask F w)) : y.Ok w := ⟨Rd.unmask h.bs, h.le, h.cap, h.u⟩
theorem Es.unmask {F : Nat → Bool} {w : World} {A : Option Addr} {n : Nat} {l : List EV} (h : Es (mask F w) A n l) : Es w A n l := ⟨Rd.unmask h.rd, fun f hf => (h.ok f hf).unmask⟩
theorem LV.Ok.unmask {F : Nat → Bool} {w : World} {x : LV} (h : x.Ok (mask F w)) : x.Ok w := ⟨h.es.unmask, h.le, h.cap, h.u0, h.u1, h.u2, h.u3, h.u4, h.u5, h.u6, h.u7⟩
theorem own_mask {F : Nat → Bool} {w : World} {base : Nat} {e : TypeId} {size n : Nat} {v : Value} {xs : List Value} (h : w.ownsRow base e size v n xs) (hF : ∀ k, v.ownBlock = some k → F k = false) : (mask F w).ownsRow base e size v n xs := by
  refine ⟨h.1, ?_⟩
  rcases h.2 with hn | ⟨g, cap, cur, rfl, hb, hg, rest⟩
  · exact .inl hn
  · exact .inr ⟨g, cap, cur, rfl, hb, (mask_block w (hF g rfl)).trans hg, rest⟩
theorem own_fr {F : Nat → Bool} {w w' : World} {base : Nat} {e : TypeId} {size n : Nat} {v : Value} {xs : List Value} (h : w.ownsRow base e size v n xs) (hf : Fr F w w') (hF : ∀ k, v.ownBlock = some k → F k = false) : w'.ownsRow base e size v n xs := by
  refine ⟨h.1, ?_⟩
  rcases h.2 with hn | ⟨g, cap, cur, rfl, hb, hg, rest⟩
  · exact .inl hn
  · exact .inr ⟨g, cap, cur, rfl, hb, (hf.block g (Array.getElem?_eq_some_iff.1 hg).1 (hF g rfl)).trans hg, rest⟩
theorem Blk.fr {F : Nat → Bool} {w w' : World} {g : Nat} {t : TypeId} {l : List Value} (h : Blk w g t l) (hf : Fr F w w') (hF : F g = false) : Blk w' g t l := (hf.block g h.lt hF).trans h
end Go.Proofs.Ytcdnjhcddbkciaa
