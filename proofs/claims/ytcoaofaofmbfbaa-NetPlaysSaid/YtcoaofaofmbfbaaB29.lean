/- Words and walks that the last text of this claim stands on: NtA, NtK. No condition. -/
import Derived.Test.YtcoaofaofmbfbaaB15
import Derived.Test.YtcoaofaofmbfbaaB16
/- Words for memory that is written in place: a world less some blocks; a net in memory. No program in sight. -/
namespace Go.Proofs.Ytcoaofaofmbfbaa
open Go.RowKit

/-- the world without the blocks that F names -/
def mask (F : Nat → Bool) (w : World) : World := { w with heap := w.heap.mapIdx fun i o => if F i then .cells #[] 0 (0, 0) else o }
theorem mask_size (F : Nat → Bool) (w : World) : (mask F w).heap.size = w.heap.size := by simp [mask]
theorem mask_at (F : Nat → Bool) (w : World) (k : Nat) : (mask F w).heap[k]? = (w.heap[k]?).map fun o => if F k then .cells #[] 0 (0, 0) else o := by
  simp [mask]
theorem mask_block {F : Nat → Bool} (w : World) {k : Nat} (h : F k = false) : (mask F w).heap[k]? = w.heap[k]? := by
  rw [mask_at, h]; simp
theorem mask_cell {F : Nat → Bool} {w : World} {p : Addr} {v : Value} (h : (mask F w).cell? p = some v) : w.cell? p = some v := by
  by_cases hF : F p.block = true
  · exfalso
    unfold World.cell? at h
    rw [mask_at, hF] at h
    cases hb : w.heap[p.block]? with
    | none => rw [hb] at h; simp at h
    | some o => rw [hb] at h; simp at h
  · rw [← World.cell?_of_block (mask_block w (by simpa using hF))]; exact h
/-- what is written is named by F -/
structure Fr (F : Nat → Bool) (w w' : World) : Prop where
  os : w'.os = w.os
  tape : w'.tape = w.tape
  output : w'.output = w.output
  size : w.heap.size ≤ w'.heap.size
  block : ∀ k, k < w.heap.size → F k = false → w'.heap[k]? = w.heap[k]?
theorem Fr.refl (F : Nat → Bool) (w : World) : Fr F w w := ⟨rfl, rfl, rfl, Nat.le_refl _, fun _ _ _ => rfl⟩
theorem Fr.of_ext {w w' : World} (h : Ext w w') (F : Nat → Bool) : Fr F w w' := ⟨h.os, h.tape, h.output, h.size, fun k hk _ => h.block k hk⟩
theorem Fr.trans {F : Nat → Bool} {a b c : World} (h : Fr F a b) (k : Fr F b c) : Fr F a c :=
  ⟨k.os.trans h.os, k.tape.trans h.tape, k.output.trans h.output, Nat.le_trans h.size k.size, fun i hi hf => (k.block i (Nat.lt_of_lt_of_le hi h.size) hf).trans (h.block i hi hf)⟩
theorem Fr.mono {F G : Nat → Bool} {a b : World} (h : Fr F a b) (hFG : ∀ k, k < a.heap.size → F k = true → G k = true) : Fr G a b :=
  ⟨h.os, h.tape, h.output, h.size, fun i hi hf => h.block i hi (by cases e : F i with | false => rfl | true => rw [hFG i hi e] at hf; cases hf)⟩
theorem Fr.grown {F : Nat → Bool} {w w' : World} {row : Option Nat} (hg : w.grownBy w' row) (hr : ∀ k, row = some k → F k = true) : Fr F w w' :=
  ⟨hg.os, hg.tape, hg.output, hg.size, fun i hi hf => hg.block i hi (fun e => by rw [hr i e.symm] at hf; cases hf)⟩
theorem Fr.setCell {F : Nat → Bool} (w : World) {p : Addr} (hp : F p.block = true) (u : Value) : Fr F w (w.setCell p u) :=
  ⟨rfl, rfl, rfl, by simp [World.setCell], fun k _ hf => Below.heap_setCell _ _ _ _ (fun e => by rw [e, hp] at hf; cases hf)⟩
theorem Fr.alloc (F : Nat → Bool) (w : World) (o : Obj) : Fr F w (w.alloc o) := .of_ext ((Ext.refl w).alloc o) F
theorem Fr.drew (F : Nat → Bool) (w : World) : Fr F w w.drew := ⟨rfl, rfl, rfl, Nat.le_refl _, fun _ _ _ => rfl⟩
theorem Fr.below {F : Nat → Bool} {a w w' : World} (h : Fr F w w') {B : Nat} (hx : Below B a w) (hB : B ≤ w.heap.size) (hF : ∀ k, F k = true → B ≤ k) : Below B a w' :=
  Below.trans hx ⟨h.os, h.tape, h.output, h.size, fun k hk => h.block k (by omega) (by cases e : F k with | false => rfl | true => have := hF k e; omega)⟩
theorem Fr.masks {F F' : Nat → Bool} {w w' : World} (h : Fr F w w') (hF : ∀ k, k < w.heap.size → F' k = F k) : Ext (mask F w) (mask F' w') := by
  refine ⟨h.os, h.tape, h.output, by rw [mask_size, mask_size]; exact h.size, fun k hk => ?_⟩
  rw [mask_size] at hk
  rw [mask_at, mask_at, hF k hk]
  have h1 : k < w'.heap.size := Nat.lt_of_lt_of_le hk h.size
  by_cases e : F k = true
  · rw [Array.getElem?_eq_getElem hk, Array.getElem?_eq_getElem h1]; simp [e]
  · have e' : F k = false := by simpa using e
    rw [h.block k hk e']
theorem Ext.masks {w w' : World} (h : Ext w w') {F : Nat → Bool} : Ext (mask F w) (mask F w') := (Fr.of_ext h F).masks fun _ _ => rfl
theorem Ext.masked {a w : World} (h : Ext a w) {F : Nat → Bool} (hF : ∀ k, F k = true → a.heap.size ≤ k) : Ext a (mask F w) :=
  ⟨h.os, h.tape, h.output, by rw [mask_size]; exact h.size, fun k hk => (mask_block w (by cases e : F k with | false => rfl | true => have := hF k e; omega)).trans (h.block k hk)⟩
theorem Rd.unmask {F : Nat → Bool} {w : World} {A : Option Addr} {n s : Nat} {xs : List Value} (h : Rd (mask F w) A n s xs) : Rd w A n s xs :=
  h.keep (by rw [mask_size]; exact Nat.le_refl _) fun _ _ hc => mask_cell hc
theorem EV.Ok.unmask {F : Nat → Bool} {w : World} {y : EV} (h : y.Ok (mask F w)) : y.Ok w := ⟨Rd.unmask h.bs, h.le, h.cap, h.u⟩
theorem Es.unmask {F : Nat → Bool} {w : World} {A : Option Addr} {n : Nat} {l : List EV} (h : Es (mask F w) A n l) : Es w A n l := ⟨Rd.unmask h.rd, fun f hf => (h.ok f hf).unmask⟩
theorem LV.Ok.unmask {F : Nat → Bool} {w : World} {x : LV} (h : x.Ok (mask F w)) : x.Ok w := ⟨h.es.unmask, h.le, h.cap, h.u0, h.u1, h.u2, h.u3, h.u4, h.u5, h.u6, h.u7⟩
theorem own_mask {F : Nat → Bool} {w : World} {base : Nat} {e : TypeId} {size n : Nat} {v : Value} {xs : List Value} (h : w.ownsRow base e size v n xs) (hF : ∀ k, v.ownBlock = some k → F k = false) : (mask F w).ownsRow base e size v n xs := by
  refine ⟨h.1, ?_⟩
  rcases h.2 with hn | ⟨g, cap, cur, rfl, hb, hg, rest⟩
  · exact .inl hn
  · exact .inr ⟨g, cap, cur, rfl, hb, (mask_block w (hF g rfl)).trans hg, rest⟩
theorem own_fr {F : Nat → Bool} {w w' : World} {base : Nat} {e : TypeId} {size n : Nat} {v : Value} {xs : List Value} (h : w.ownsRow base e size v n xs) (hf : Fr F w w') (hF : ∀ k, v.ownBlock = some k → F k = false) : w'.ownsRow base e size v n xs := by
  refine ⟨h.1, ?_⟩
  rcases h.2 with hn | ⟨g, cap, cur, rfl, hb, hg, rest⟩
  · exact .inl hn
  · exact .inr ⟨g, cap, cur, rfl, hb, (hf.block g (Array.getElem?_eq_some_iff.1 hg).1 (hF g rfl)).trans hg, rest⟩
theorem Blk.fr {F : Nat → Bool} {w w' : World} {g : Nat} {t : TypeId} {l : List Value} (h : Blk w g t l) (hf : Fr F w w') (hF : F g = false) : Blk w' g t l := (hf.block g h.lt hF).trans h

/-- a slice of bytes as a thing in a row -/
structure BSV where
  A : Option Addr
  len : Nat
  cap : Nat
  b : List UInt8
def BSV.val (y : BSV) : Value := .slice y.A y.len y.cap
def BSV.blk (y : BSV) : Option Nat := y.val.ownBlock
theorem bvs_cells (l : List BSV) : ∀ u ∈ l.map BSV.val, u.oneCell' = true := by
  intro u hu; obtain ⟨y, _, rfl⟩ := List.mem_map.1 hu; rfl
/-- the slice's bytes are its own -/
structure OwnB (w : World) (y : BSV) : Prop where
  own : w.ownsRow 0 5 1 y.val y.len (y.b.map bv)
  few : y.len ≤ 16384
theorem OwnB.ext {w w' : World} {y : BSV} (h : OwnB w y) (he : Ext w w') : OwnB w' y := ⟨own_ext h.own he, h.few⟩
theorem OwnB.fr {F : Nat → Bool} {w w' : World} {y : BSV} (h : OwnB w y) (hf : Fr F w w') (hF : ∀ k, y.blk = some k → F k = false) : OwnB w' y := ⟨own_fr h.own hf hF, h.few⟩
theorem OwnB.bs {w : World} {y : BSV} (h : OwnB w y) : Bs w y.A y.len y.b := Bs.of_own h.own
theorem OwnB.cap {w : World} {y : BSV} (h : OwnB w y) : y.len ≤ y.cap ∧ y.cap ≤ maxLen := own_bounds h.own
theorem OwnB.lt {w : World} {y : BSV} (h : OwnB w y) : ∀ k, y.blk = some k → k < w.heap.size := fun k hk => (h.own.lt k hk).2
theorem OwnB.far {w : World} {y : BSV} (h : OwnB w y) {p : Addr} (hp : y.blk ≠ some p.block) (u : Value) : OwnB (w.setCell p u) y := ⟨own_far' h.own hp u, h.few⟩
/-- two that share no bytes -/
def Apart (y z : BSV) : Prop := ∀ k, y.blk = some k → z.blk ≠ some k
/-- what a net holds -/
structure NetV where
  A : Option Addr
  n : Nat
  c : Nat
  l : List BSV
  sent : Int
  taken : Int
  lost : Int
/-- a net in memory at the block g, whose blocks F names -/
structure IsNet (w : World) (F : Nat → Bool) (g : Nat) (t : TypeId) (te : TypeId) (x : NetV) : Prop where
  blk : Blk w g t [.slice x.A x.n x.c, .int .i64 x.sent, .int .i64 x.taken, .int .i64 x.lost]
  row : w.ownsRow 0 te 1 (.slice x.A x.n x.c) x.n (x.l.map BSV.val)
  el : ∀ y ∈ x.l, OwnB w y
  ap : x.l.Pairwise Apart
  few : x.n ≤ 256
  gF : F g = true
  rF : ∀ k, (Value.slice x.A x.n x.c).ownBlock = some k → F k = true
  eF : ∀ y ∈ x.l, ∀ k, y.blk = some k → F k = true
  ub : ∀ k, F k = true → k < w.heap.size
  s0 : 0 ≤ x.sent ∧ x.sent ≤ 1000000000
  t0 : 0 ≤ x.taken ∧ x.taken ≤ 1000000000
  l0 : 0 ≤ x.lost ∧ x.lost ≤ 1000000000
theorem IsNet.len {w : World} {F : Nat → Bool} {g : Nat} {t te : TypeId} {x : NetV} (h : IsNet w F g t te x) : x.l.length = x.n := by
  have := h.row.1; simpa using this
theorem IsNet.fr {w w' : World} {F G : Nat → Bool} {g : Nat} {t te : TypeId} {x : NetV} (h : IsNet w F g t te x) (hf : Fr G w w') (hd : ∀ k, F k = true → G k = false) : IsNet w' F g t te x :=
  ⟨h.blk.fr hf (hd g h.gF), own_fr h.row hf fun k hk => hd k (h.rF k hk), fun y hy => (h.el y hy).fr hf fun k hk => hd k (h.eF y hy k hk), h.ap, h.few, h.gF, h.rF, h.eF, fun k hk => Nat.lt_of_lt_of_le (h.ub k hk) hf.size, h.s0, h.t0, h.l0⟩
theorem IsNet.ext {w w' : World} {F : Nat → Bool} {g : Nat} {t te : TypeId} {x : NetV} (h : IsNet w F g t te x) (he : Ext w w') : IsNet w' F g t te x :=
  h.fr (G := fun _ => false) (Fr.of_ext he _) fun _ _ => rfl
theorem IsNet.row_cell {w : World} {F : Nat → Bool} {g : Nat} {t te : TypeId} {x : NetV} (h : IsNet w F g t te x) {i : Nat} (hi : i < x.n) : ∃ b, x.A = some ⟨b, 0, none⟩ ∧ w.cell? ⟨b, i, none⟩ = some (x.l[i]'(by rw [h.len]; exact hi)).val := by
  rcases h.row.2 with ⟨e, h0⟩ | ⟨b, cap, cur, e, _, hb, hnc, _, hcs, htk⟩
  · omega
  · injection e with e1 e2 e3
    refine ⟨b, e1, ?_⟩
    have hl := h.len
    unfold World.cell?
    simp only [hb, Option.isSome_none, Bool.false_eq_true, if_false]
    have hi2 : (x.l.map BSV.val)[i]? = some (x.l[i]'(by rw [hl]; exact hi)).val := by rw [List.getElem?_map, List.getElem?_eq_getElem (by omega)]; rfl
    rw [← htk, List.getElem?_take_of_lt (by omega), Array.getElem?_toList] at hi2
    exact hi2
end Go.Proofs.Ytcoaofaofmbfbaa

/- Why bytes are no letter is never that a number is out of its bounds: plain. -/
namespace Go.Proofs.Ytcoaofaofmbfbaa
open Go.RowKit

theorem trow_one : ∀ (k : Nat) (l : List UInt8) (q : Option FV), l.length ≤ k → (∀ m : List UInt8, (tskip m).2 ≠ 1) → (trow q l).2 ≠ 1 := by
  intro k
  induction k with
  | zero =>
    intro l q hk _
    have : l = [] := List.eq_nil_of_length_eq_zero (by omega)
    subst this
    rw [trow_nil]; simp
  | succ k ih =>
    intro l q hk ht
    rw [trow]
    split
    · simp
    · rename_i hl
      split
      · exact ht l
      · split
        · simp
        · rename_i h0
          split
          · simp
          · split
            · refine ih _ _ ?_ ht
              have : 0 < l.length := List.length_pos_iff.2 hl
              rw [List.length_drop]; omega
            · simp
theorem vtk_one : ∀ (f : Nat) (l : List UInt8) (k m : Nat), (vtk f l k m).2.2 ≠ 1 := by
  intro f
  induction f with
  | zero => intro l k m; unfold vtk; simp
  | succ f ih =>
    intro l k m
    cases l with
    | nil => unfold vtk; simp
    | cons x r =>
      rw [show vtk (f + 1) (x :: r) k m = if 0 < k ∧ x.toNat = 0 then (0, 0, 3) else if k = 9 ∧ 1 < x.toNat then (0, 0, 3) else if x.toNat < 128 then (m + x.toNat % 128 * 128 ^ k, k + 1, 0) else vtk f r (k + 1) (m + x.toNat % 128 * 128 ^ k) from rfl]
      split
      · simp
      · split
        · simp
        · split
          · simp
          · exact ih _ _ _
theorem vtake_one (l : List UInt8) : (vtake l).2.2 ≠ 1 := vtk_one _ _ _ _
theorem ttake_one (l : List UInt8) : (ttake l).2.2.2 ≠ 1 := by
  unfold ttake
  split
  · exact vtake_one l
  · split <;> simp
theorem tskip_one (l : List UInt8) : (tskip l).2 ≠ 1 := by
  unfold tskip
  split
  · exact ttake_one l
  · dsimp only
    split
    · exact vtake_one _
    · repeat' split
      all_goals simp
theorem ttrow_one (l : List UInt8) : (ttrow l).2 ≠ 1 := by
  unfold ttrow
  split
  · simp
  · exact trow_one _ l none (Nat.le_refl _) tskip_one
theorem check_one {S : List SpV} {l : List FV} (hS : S ≠ []) (h : fmay l = 0) : checkN S l ≠ 1 := by
  unfold checkN
  rw [if_neg hS, h, if_neg (by simp)]
  split <;> simp
theorem ent_one (b : List UInt8) : entCode b ≠ 1 := by
  unfold entCode
  split
  · exact ttrow_one b
  · rename_i h
    exact check_one (by rw [ent_spec7]; simp) (ttrow_sound (by simpa using h)).2.2
theorem readE_one : ∀ l : List FV, readE l ≠ 1
  | [] => by simp [readE]
  | f :: r => by
    rw [readE_cons]
    split
    · exact ent_one _
    · exact readE_one r
theorem takeCode_one (b : List UInt8) : takeCode b ≠ 1 := by
  unfold takeCode
  split
  · exact ttrow_one b
  · rename_i h
    split
    · exact check_one (by rw [spec6]; simp) (ttrow_sound (by simpa using h)).2.2
    · split
      · exact readE_one _
      · simp
theorem IsTaken.one {b : List UInt8} {x : LV} {ms : List FV} {c : Nat} (h : IsTaken b x ms c) : c ≠ 1 := by
  rcases h with ⟨h, _⟩ | ⟨_, _, _, h, _⟩
  · omega
  · rw [h]; exact takeCode_one b
end Go.Proofs.Ytcoaofaofmbfbaa
