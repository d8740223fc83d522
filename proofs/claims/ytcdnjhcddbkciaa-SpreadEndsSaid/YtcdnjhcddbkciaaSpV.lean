/- What holds between the steps of the law SpreadEnds. -/
import Derived.Test.YtcdnjhcddbkciaaSpT
import Derived.Test.YtcdnjhcddbkciaaSpO
import Derived.Test.YtcdnjhcddbkciaaMkA
import Derived.Test.YtcdnjhcddbkciaaSpQ
namespace Go.Proofs.Ytcdnjhcddbkciaa
open Go.RowKit

theorem own_farS {w : World} {base : Nat} {e : TypeId} {size n : Nat} {v : Value} {xs : List Value} (h : w.ownsRow base e size v n xs) {p : Addr} (hp : v.ownBlock ≠ some p.block) (u : Value) :
    (w.setCell p u).ownsRow base e size v n xs := by
  refine ⟨h.1, ?_⟩
  rcases h.2 with hn | ⟨g, cap, cur, rfl, hb, hg, rest⟩
  · exact .inl hn
  · refine .inr ⟨g, cap, cur, rfl, hb, ?_, rest⟩
    rw [heap_setCell_other w p g u (by simpa [Value.ownBlock] using hp)]
    exact hg
theorem and1s (a : Int) : ∃ z : Nat, z ≤ 1 ∧ bits .and .i64 a 1 = (z : Int) := by
  refine ⟨((BitVec.ofInt 64 a) &&& (BitVec.ofInt 64 1)).toNat, ?_, ?_⟩
  · rw [BitVec.toNat_and]
    have : (BitVec.ofInt 64 1).toNat = 1 := by decide
    rw [this]; exact Nat.and_le_right
  · show IntKind.i64.wrap (((BitVec.ofInt 64 a) &&& (BitVec.ofInt 64 1)).toNat : Int) = _
    have h : ((BitVec.ofInt 64 a) &&& (BitVec.ofInt 64 1)).toNat ≤ 1 := by
      rw [BitVec.toNat_and]
      have : (BitVec.ofInt 64 1).toNat = 1 := by decide
      rw [this]; exact Nat.and_le_right
    exact IntWalk.i64_in _ (by omega)
theorem and3s (a : Int) : ∃ z : Nat, z ≤ 3 ∧ bits .and .i64 a 3 = (z : Int) := by
  refine ⟨((BitVec.ofInt 64 a) &&& (BitVec.ofInt 64 3)).toNat, ?_, ?_⟩
  · rw [BitVec.toNat_and]
    have : (BitVec.ofInt 64 3).toNat = 3 := by decide
    rw [this]; exact Nat.and_le_right
  · show IntKind.i64.wrap (((BitVec.ofInt 64 a) &&& (BitVec.ofInt 64 3)).toNat : Int) = _
    have h : ((BitVec.ofInt 64 a) &&& (BitVec.ofInt 64 3)).toNat ≤ 3 := by
      rw [BitVec.toNat_and]
      have : (BitVec.ofInt 64 3).toNat = 3 := by decide
      rw [this]; exact Nat.and_le_right
    exact IntWalk.i64_in _ (by omega)
/-- the leader's log, while it grows -/
structure LeadI (w wr : World) (gl : Nat) (A1 : Option Addr) (j c1 : Nat) (L : List EV) (tn : Nat) : Prop where
  blk : Blk wr gl 45 [.int .i64 0, .int .i64 50, .int .i64 0, .slice A1 j c1]
  own : wr.ownsRow (gl + 1) 36 2 (.slice A1 j c1) j (logOf L)
  es : ∀ y ∈ L, y.Ok w ∧ 1 ≤ y.term ∧ y.term ≤ 25 ∧ y.len ≤ 100
  t0 : 1 ≤ tn ∧ tn ≤ 1 + 2 * j
  last : 0 < j → termB L j = tn
  jm : j ≤ 12
  ex : Ext w wr
  lg : w.heap.size ≤ gl
theorem LeadI.len {w wr : World} {gl : Nat} {A1 : Option Addr} {j c1 : Nat} {L : List EV} {tn : Nat} (h : LeadI w wr gl A1 j c1 L tn) : L.length = j := by
  have := h.own.1; rw [logOf_len] at this; omega
theorem LeadI.ext {w wr W : World} {gl : Nat} {A1 : Option Addr} {j c1 : Nat} {L : List EV} {tn : Nat} (h : LeadI w wr gl A1 j c1 L tn) (he : Ext wr W) : LeadI w W gl A1 j c1 L tn :=
  ⟨h.blk.ext he, own_ext h.own he, h.es, h.t0, h.last, h.jm, h.ex.trans he, h.lg⟩
theorem LeadI.step {w wr W' w6 : World} {gl : Nat} {A1 A6 : Option Addr} {j c1 c6 : Nat} {L : List EV} {tn tn' : Nat} {y : EV} (h : LeadI w wr gl A1 j c1 L tn) (he : Ext wr W') (hj : j < 12) (hy : y.Ok w) (ht : y.term = tn') (hl : y.len ≤ 100) (h1 : tn ≤ tn') (h2 : tn' ≤ tn + 2)
    (hown : w6.ownsRow (gl + 1) 36 2 (.slice A6 (j + 1) c6) (j + 1) (logOf L ++ y.cells)) (hg : W'.grownBy w6 (Value.slice A1 j c1).ownBlock) : Blk w6 gl 45 [.int .i64 0, .int .i64 50, .int .i64 0, .slice A1 j c1] ∧ LeadI w (w6.setCell ⟨gl, 3, none⟩ (.slice A6 (j + 1) c6)) gl A6 (j + 1) c6 (L ++ [y]) tn' := by
  have hL := h.ext he
  have hb := hL.blk.grown hg (fun e => blk_neS hL.own hL.blk (by decide) e.symm)
  have hlen := h.len
  have ht0 := h.t0
  refine ⟨hb, ⟨?_, own_set (own_to hown (Nat.le_refl _) rfl (by rw [logOf_append, logOf_one])) (by dsimp only; omega) _, ?_, by omega, ?_, by omega, ?_, h.lg⟩⟩
  · have := hb.set_ 3 (.slice A6 (j + 1) c6)
    simpa using this
  · intro z hz
    rcases List.mem_append.1 hz with hz | hz
    · exact h.es z hz
    · simp only [List.mem_singleton] at hz
      subst hz
      exact ⟨hy, by omega, by omega, hl⟩
  · intro _
    rw [show ((j + 1 : Nat) : Int) = (j : Int) + 1 by omega, termB_at _ j (by rw [List.length_append, hlen]; simp)]
    rw [List.getElem_append_right (by omega)]
    simp [hlen, ht]
  · exact (Below.app hL.ex hg (by have := hL.ex.size; omega) hL.own (by have := h.lg; omega)).setCell (p := ⟨gl, 3, none⟩) (by exact h.lg) _
/-- the two logs, while the other's grows -/
structure TwoI (w wr : World) (gl go : Nat) (A1 : Option Addr) (n1 c1 : Nat) (L : List EV) (tn : Nat) (bo : Nat) (Ao : Option Addr) (no co : Nat) (O : List EV) : Prop where
  ld : LeadI w wr gl A1 n1 c1 L tn
  blk : Blk wr go 45 [.int .i64 0, .int .i64 3, .int .i64 0, .slice Ao no co]
  own : wr.ownsRow bo 36 2 (.slice Ao no co) no (logOf O)
  bo_ : ∀ k, (Value.slice A1 n1 c1).ownBlock = some k → k < bo
  glb : gl < bo
  es : ∀ y ∈ O, y.Ok w
  pm : PM O L
  lt : gl < go
  bs : bo ≤ wr.heap.size
theorem TwoI.len {w wr : World} {gl go : Nat} {A1 : Option Addr} {n1 c1 : Nat} {L : List EV} {tn bo : Nat} {Ao : Option Addr} {no co : Nat} {O : List EV} (h : TwoI w wr gl go A1 n1 c1 L tn bo Ao no co O) : O.length = no := by
  have := h.own.1; rw [logOf_len] at this; omega
theorem TwoI.ext {w wr W : World} {gl go : Nat} {A1 : Option Addr} {n1 c1 : Nat} {L : List EV} {tn bo : Nat} {Ao : Option Addr} {no co : Nat} {O : List EV} (h : TwoI w wr gl go A1 n1 c1 L tn bo Ao no co O) (he : Ext wr W) : TwoI w W gl go A1 n1 c1 L tn bo Ao no co O :=
  ⟨h.ld.ext he, h.blk.ext he, own_ext h.own he, h.bo_, h.glb, h.es, h.pm, h.lt, Nat.le_trans h.bs he.size⟩
theorem PM.snoc {O L : List EV} {y : EV} (h : PM O L) (hL : ∀ f ∈ L, f.term ≤ 25) (hy : 60 ≤ y.term) : PM (O ++ [y]) L := fun i h1 h2 h3 => by
  rcases Nat.lt_or_ge i O.length with k | k
  · rw [tm_left k] at h3
    rw [List.take_append_of_le_length (by omega)]
    exact h i k h2 h3
  · have hi : i = O.length := by rw [List.length_append] at h1; simp at h1; omega
    subst hi
    rw [tm_right (Nat.le_refl _), Nat.sub_self, tm_at h2] at h3
    have h4 := hL L[O.length] (List.getElem_mem _)
    have h5 : tm [y] 0 = y.term := rfl
    omega
theorem TwoI.step {w wr W' w6 : World} {gl go : Nat} {A1 : Option Addr} {n1 c1 : Nat} {L : List EV} {tn bo : Nat} {Ao A6 : Option Addr} {no co c6 : Nat} {O : List EV} {y : EV} (h : TwoI w wr gl go A1 n1 c1 L tn bo Ao no co O) (he : Ext wr W') (hy : y.Ok w) (ht : 60 ≤ y.term)
    (hown : w6.ownsRow bo 36 2 (.slice A6 (no + 1) c6) (no + 1) (logOf O ++ y.cells)) (hg : W'.grownBy w6 (Value.slice Ao no co).ownBlock) : Blk w6 go 45 [.int .i64 0, .int .i64 3, .int .i64 0, .slice Ao no co] ∧ TwoI w (w6.setCell ⟨go, 3, none⟩ (.slice A6 (no + 1) c6)) gl go A1 n1 c1 L tn bo A6 (no + 1) c6 (O ++ [y]) := by
  have hT := h.ext he
  have hb := hT.blk.grown hg (fun e => blk_neS hT.own hT.blk (by decide) e.symm)
  have hbo : w.heap.size ≤ bo := by have := h.ld.lg; have := h.glb; omega
  have hl6 := hT.ld.blk.grown hg (fun e => blk_neS hT.own hT.ld.blk (by decide) e.symm)
  have ho6 : w6.ownsRow (gl + 1) 36 2 (.slice A1 n1 c1) n1 (logOf L) := own_grownS hT.ld.own hg (by
    cases h1 : (Value.slice A1 n1 c1).ownBlock with
    | none => exact .inl rfl
    | some k =>
      refine .inr (fun e => ?_)
      have := h.bo_ k h1
      have := (hT.own.lt k e.symm).1
      omega)
  have hx6 : Ext w w6 := Below.app hT.ld.ex hg (by have := hT.ld.ex.size; omega) hT.own hbo
  have hgo : w.heap.size ≤ go := by have := h.ld.lg; have := h.lt; omega
  refine ⟨hb, ⟨⟨hl6.far (p := ⟨go, 3, none⟩) (by have := h.lt; dsimp only; omega) _, ?_, h.ld.es, h.ld.t0, h.ld.last, h.ld.jm, hx6.setCell (p := ⟨go, 3, none⟩) hgo _, h.ld.lg⟩, ?_, ?_, h.bo_, h.glb, ?_, h.pm.snoc (fun f hf => (h.ld.es f hf).2.2.1) ht, h.lt, by have := hT.bs; have := hg.size; simp only [World.setCell]; simp; omega⟩⟩
  · exact own_farS ho6 (blk_neS ho6 hb (by decide)) _
  · have := hb.set_ 3 (.slice A6 (no + 1) c6)
    simpa using this
  · refine own_farS (own_to hown (Nat.le_refl _) rfl (by rw [logOf_append, logOf_one])) ?_ _
    exact blk_neS hown hb (by decide)
  · intro z hz
    rcases List.mem_append.1 hz with hz | hz
    · exact h.es z hz
    · simp only [List.mem_singleton] at hz
      subst hz; exact hy
/-- the two logs, while they are made alike -/
structure AlI (w wr : World) (gl go : Nat) (A1 : Option Addr) (n1 c1 : Nat) (L : List EV) (tl : Int) (Ao : Option Addr) (no co : Nat) (O : List EV) (tm_ vt : Int) : Prop where
  b1 : Blk wr gl 45 [.int .i64 0, .int .i64 tl, .int .i64 0, .slice A1 n1 c1]
  b2 : Blk wr go 45 [.int .i64 0, .int .i64 tm_, .int .i64 vt, .slice Ao no co]
  e1 : Es (mask (fun k => k == gl || k == go) wr) A1 n1 L
  e2 : Es (mask (fun k => k == gl || k == go) wr) Ao no O
  h1 : n1 ≤ c1
  k1 : c1 ≤ maxLen
  h2 : no ≤ co
  k2 : co ≤ maxLen
  vt_ : I64 vt
  tm0 : 0 ≤ tm_ ∧ tm_ ≤ 99
  ne : gl ≠ go
  lg : w.heap.size ≤ gl
  lo : w.heap.size ≤ go
  ex : Ext w wr
theorem AlI.ext {w wr W : World} {gl go : Nat} {A1 : Option Addr} {n1 c1 : Nat} {L : List EV} {tl : Int} {Ao : Option Addr} {no co : Nat} {O : List EV} {tm_ vt : Int} (h : AlI w wr gl go A1 n1 c1 L tl Ao no co O tm_ vt) (he : Ext wr W) : AlI w W gl go A1 n1 c1 L tl Ao no co O tm_ vt :=
  ⟨h.b1.ext he, h.b2.ext he, h.e1.ext he.masks, h.e2.ext he.masks, h.h1, h.k1, h.h2, h.k2, h.vt_, h.tm0, h.ne, h.lg, h.lo, h.ex.trans he⟩
theorem TwoI.al {w wr : World} {gl go : Nat} {A1 : Option Addr} {n1 c1 : Nat} {L : List EV} {tn bo : Nat} {Ao : Option Addr} {no co : Nat} {O : List EV} (h : TwoI w wr gl go A1 n1 c1 L tn bo Ao no co O) : AlI w (wr.setCell ⟨gl, 1, none⟩ (.int .i64 99)) gl go A1 n1 c1 L 99 Ao no co O 3 0 := by
  have hgo : w.heap.size ≤ go := by have := h.ld.lg; have := h.lt; omega
  have hx := h.ld.ex.setCell (p := ⟨gl, 1, none⟩) h.ld.lg (.int .i64 99)
  have hb1 : Blk (wr.setCell ⟨gl, 1, none⟩ (.int .i64 99)) gl 45 [.int .i64 0, .int .i64 99, .int .i64 0, .slice A1 n1 c1] := by
    have := h.ld.blk.set_ 1 (.int .i64 99)
    simpa using this
  have hb2 := h.blk.far (p := ⟨gl, 1, none⟩) (by have := h.lt; dsimp only; omega) (.int .i64 99)
  have o1 := own_farS h.ld.own (p := ⟨gl, 1, none⟩) (blk_neS h.ld.own h.ld.blk (by decide)) (.int .i64 99)
  have o2 := own_farS h.own (p := ⟨gl, 1, none⟩) (blk_neS h.own h.ld.blk (by decide)) (.int .i64 99)
  have hm : Ext w (mask (fun k => k == gl || k == go) (wr.setCell ⟨gl, 1, none⟩ (.int .i64 99))) := hx.masked fun k hk => by
    simp only [Bool.or_eq_true, beq_iff_eq] at hk
    rcases hk with rfl | rfl
    · exact h.ld.lg
    · exact hgo
  have nb : ∀ {v : Value} {n b : Nat} {xs : List Value}, (wr.setCell ⟨gl, 1, none⟩ (.int .i64 99)).ownsRow b 36 2 v n xs → ∀ k, v.ownBlock = some k → (k == gl || k == go) = false := fun ho k hk => by
    simp only [Bool.or_eq_false_iff, beq_eq_false_iff_ne]
    exact ⟨fun e => by subst e; exact blk_neS ho hb1 (by decide) hk, fun e => by subst e; exact blk_neS ho hb2 (by decide) hk⟩
  exact ⟨hb1, hb2, Es.of_own (own_mask o1 (nb o1)) (fun f hf => (h.ld.es f hf).1.ext hm), Es.of_own (own_mask o2 (nb o2)) (fun f hf => (h.es f hf).ext hm), (own_bd h.ld.own).1, (own_bd h.ld.own).2, (own_bd h.own).1, (own_bd h.own).2, ⟨by omega, by omega⟩, by omega, by have := h.lt; omega, h.ld.lg, hgo, hx⟩
/-- the other's state is stored -/
theorem AlI.put {w wr W : World} {gl go : Nat} {A1 : Option Addr} {n1 c1 : Nat} {L : List EV} {tl : Int} {Ao : Option Addr} {no co : Nat} {O : List EV} {tm_ vt : Int} (h : AlI w wr gl go A1 n1 c1 L tl Ao no co O tm_ vt) (he : Ext wr W) {A' : Option Addr} {n' c' : Nat} {O' : List EV} {V : Int} (hV : I64 V)
    (hes : Es (mask (fun k => k == gl || k == go) W) A' n' O') (h1 : n' ≤ c') (h2 : c' ≤ maxLen) : AlI w ((((W.setCell ⟨go, 0, none⟩ (.int .i64 0)).setCell ⟨go, 1, none⟩ (.int .i64 99)).setCell ⟨go, 2, none⟩ (.int .i64 V)).setCell ⟨go, 3, none⟩ (.slice A' n' c')) gl go A1 n1 c1 L tl A' n' c' O' 99 V := by
  have hW := h.ext he
  have hf : Fr (fun k => k == gl || k == go) W ((((W.setCell ⟨go, 0, none⟩ (.int .i64 0)).setCell ⟨go, 1, none⟩ (.int .i64 99)).setCell ⟨go, 2, none⟩ (.int .i64 V)).setCell ⟨go, 3, none⟩ (.slice A' n' c')) :=
    (((Fr.setCell W (p := ⟨go, 0, none⟩) (by simp) _).trans (Fr.setCell _ (p := ⟨go, 1, none⟩) (by simp) _)).trans (Fr.setCell _ (p := ⟨go, 2, none⟩) (by simp) _)).trans (Fr.setCell _ (p := ⟨go, 3, none⟩) (by simp) _)
  have hm := hf.masks (fun _ _ => rfl)
  refine ⟨hW.b1.far4 (g' := go) h.ne _ _ _ _, ?_, hW.e1.ext hm, hes.ext hm, h.h1, h.k1, h1, h2, hV, by omega, h.ne, h.lg, h.lo, Ext.set4 hW.ex (g := go) h.lo _ _ _ _⟩
  have := (((hW.b2.set_ 0 (.int .i64 0)).set_ 1 (.int .i64 99)).set_ 2 (.int .i64 V)).set_ 3 (.slice A' n' c')
  simpa using this
end Go.Proofs.Ytcdnjhcddbkciaa
