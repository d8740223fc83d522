/- Words and walks that the last text of this claim stands on: RnH. No condition. -/
import Derived.Test.YtcoaofaofmbfbaaB36
import Derived.Test.YtcoaofaofmbfbaaB34
import Derived.Test.YtcoaofaofmbfbaaB26
/- What holds in the law NetPlays between two steps: a net, the document's net, letters, something to be done. -/
namespace Go.Proofs.Ytcoaofaofmbfbaa
open Go.RowKit

theorem and7n (x : Nat) (h : x < 256) : bits .and .u8 (x : Int) 7 = ((x % 8 : Nat) : Int) := by
  have : ∀ y : Fin 256, bits .and .u8 ((y.val : Nat) : Int) 7 = ((y.val % 8 : Nat) : Int) := by decide +kernel
  exact this ⟨x, h⟩
def Bd (p : NetP) (b : Int) : Prop := p.sent ≤ b ∧ p.taken ≤ b ∧ p.lost ≤ b
theorem Bd.mono {p : NetP} {b c : Int} (h : Bd p b) (hc : b ≤ c) : Bd p c := ⟨by have := h.1; omega, by have := h.2.1; omega, by have := h.2.2; omega⟩
theorem Bd.send {p : NetP} {b : Int} (h : Bd p b) {l : List LV} (hl : l.length ≤ 8) : Bd (p.send l) (b + 8) := by
  obtain ⟨h1, h2, h3⟩ := h
  unfold NetP.send
  split
  · exact ⟨by omega, by omega, by omega⟩
  · refine ⟨?_, ?_, ?_⟩
    · show p.sent + (l.length : Int) ≤ _; omega
    · show p.taken ≤ _; omega
    · show p.lost + ((l.length - roomN p.row.length l.length : Nat) : Int) ≤ _; omega
theorem Bd.drop {p : NetP} {b : Int} (h : Bd p b) (i : Int) : Bd (p.drop i) (b + 1) := by
  obtain ⟨h1, h2, h3⟩ := h
  unfold NetP.drop
  split
  · exact ⟨by show p.sent ≤ _; omega, by show p.taken ≤ _; omega, by show p.lost + 1 ≤ _; omega⟩
  · exact ⟨by omega, by omega, by omega⟩
theorem Bd.take {p : NetP} {b : Int} (h : Bd p b) (i : Int) : Bd (p.take i) (b + 1) := by
  obtain ⟨h1, h2, h3⟩ := h
  unfold NetP.take
  split
  · exact ⟨by show p.sent ≤ _; omega, by show p.taken + 1 ≤ _; omega, by show p.lost ≤ _; omega⟩
  · exact ⟨by omega, by omega, by omega⟩
theorem Bd.twice {p : NetP} {b : Int} (h : Bd p b) (i : Int) : Bd (p.twice i) (b + 1) := by
  obtain ⟨h1, h2, h3⟩ := h
  unfold NetP.twice
  split
  · exact ⟨by omega, by omega, by omega⟩
  · split
    · exact ⟨by omega, by omega, by omega⟩
    · exact ⟨by show p.sent + 1 ≤ _; omega, by show p.taken ≤ _; omega, by show p.lost ≤ _; omega⟩
theorem Bd.turn {p : NetP} {b : Int} (h : Bd p b) (i q v : Int) : Bd (p.turn i q v) b := by
  unfold NetP.turn
  split
  · exact h
  · exact h
/-- the blocks of a net and of the document's -/
def GF (F : Nat → Bool) (gy : Nat) : Nat → Bool := fun k => F k || k == gy
/-- the two nets -/
structure PN (w wr : World) (F : Nat → Bool) (g gy : Nat) (x y : NetV) : Prop where
  nn : Net wr F g x
  rr : RNet wr (GF F gy) gy y
  lb : ∀ k, F k = true → w.heap.size ≤ k
  lg : w.heap.size ≤ gy
  fg : F gy = false
  ex : Ext w wr
theorem PN.ub {w wr : World} {F : Nat → Bool} {g gy : Nat} {x y : NetV} (h : PN w wr F g gy x y) : ∀ k, GF F gy k = true → k < wr.heap.size := fun k hk => by
  simp only [GF, Bool.or_eq_true, beq_iff_eq] at hk
  rcases hk with hk | rfl
  · exact h.nn.ub k hk
  · exact h.rr.ub
theorem PN.ext {w wr W : World} {F : Nat → Bool} {g gy : Nat} {x y : NetV} (h : PN w wr F g gy x y) (he : Ext wr W) : PN w W F g gy x y :=
  ⟨IsNet.ext h.nn he, h.rr.ext he, h.lb, h.lg, h.fg, h.ex.trans he⟩
theorem GF.old {F F' : Nat → Bool} {gy n : Nat} (h : ∀ k, k < n → F' k = F k) : ∀ k, k < n → GF F' gy k = GF F gy k := fun k hk => by unfold GF; rw [h k hk]
theorem GF.in_ {F : Nat → Bool} {gy : Nat} {w : World} : ∀ k, k < w.heap.size → F k = true → GF F gy k = true := fun k _ hk => by unfold GF; rw [hk]; rfl
theorem GF.gy_ {F : Nat → Bool} {gy : Nat} {w : World} : ∀ k, k < w.heap.size → (k == gy) = true → GF F gy k = true := fun k _ hk => by unfold GF; rw [hk]; simp
/-- a step of the net -/
theorem PN.nstep {w W W' : World} {F F' : Nat → Bool} {g gy : Nat} {x x' y : NetV} (h : PN w W F g gy x y) (hN : Net W' F' g x') (hF : ∀ k, k < W.heap.size → F' k = F k) (hf : Fr F W W') : PN w W' F' g gy x' y :=
  ⟨hN, h.rr.fr hf (fun k hk => by unfold GF; rw [hk]; rfl) h.fg (GF.old hF), fun k hk => by
    by_cases hlt : k < W.heap.size
    · rw [hF k hlt] at hk; exact h.lb k hk
    · have := h.ex.size; omega, h.lg, by rw [hF gy h.rr.ub]; exact h.fg, hf.below h.ex h.ex.size h.lb⟩
/-- a step of the document's net -/
theorem PN.ystep {w W W' : World} {F : Nat → Bool} {g gy : Nat} {x y y' : NetV} (h : PN w W F g gy x y) (hR : RNet W' (GF F gy) gy y') (hf : Fr (fun k => k == gy) W W') : PN w W' F g gy x y' :=
  ⟨Net.away h.nn hf h.fg, hR, h.lb, h.lg, h.fg, hf.below h.ex h.ex.size (fun k hk => by rw [eq_of_beq hk]; exact h.lg)⟩
/-- the net is left for its clone -/
theorem PN.clone {w W W' W'' : World} {F F8 : Nat → Bool} {g gy gc : Nat} {x y c8 : NetV} (h : PN w W F g gy x y) (hc : Net W' F8 gc c8) (hnew : ∀ k, F8 k = true → W.heap.size ≤ k) (he : Ext W W') (hf : Fr F W' W'') : PN w W'' F8 gc gy c8 y := by
  have hy := h.rr.ub
  have hx : ∀ k, k < W.heap.size → F8 k = false := fun k hk => by
    cases e : F8 k with
    | false => rfl
    | true => have := hnew k e; omega
  have hdj : ∀ k, F8 k = true → F k = false := fun k hk => by
    cases e : F k with
    | false => rfl
    | true => have := h.nn.ub k e; have := hnew k hk; omega
  have r1 : RNet W' (fun k => GF F gy k || F8 k) gy y := h.rr.fr (Fr.of_ext he (fun _ => false)) (fun _ hk => by cases hk) rfl (fun k hk => by rw [hx k hk]; simp)
  have r2 : RNet W'' (fun k => GF F gy k || F8 k) gy y := r1.fr hf (fun k hk => by unfold GF; rw [hk]; rfl) h.fg (fun _ _ => rfl)
  refine ⟨IsNet.fr hc hf hdj, r2.less (fun k hk => ?_) (by unfold GF; simp), fun k hk => by have := hnew k hk; have := h.ex.size; omega, h.lg, hx gy hy, hf.below (h.ex.trans he) (h.ex.trans he).size h.lb⟩
  simp only [GF, Bool.or_eq_true] at hk ⊢
  rcases hk with hk | hk
  · exact .inr hk
  · exact .inl (.inr hk)
/-- the letters lie apart from both -/
theorem Ts.nstep {w W W' : World} {F F' : Nat → Bool} {g gy : Nat} {x y : NetV} {A : Option Addr} {m : Nat} {d : List LV} (_h : PN w W F g gy x y) (ht : Ts (mask (GF F gy) W) A m d) (hF : ∀ k, k < W.heap.size → F' k = F k) (hf : Fr F W W') : Ts (mask (GF F' gy) W') A m d :=
  ht.ext ((hf.mono GF.in_).masks (GF.old hF))
theorem Ts.ystep {W W' : World} {F : Nat → Bool} {gy : Nat} {A : Option Addr} {m : Nat} {d : List LV} (ht : Ts (mask (GF F gy) W) A m d) (hf : Fr (fun k => k == gy) W W') : Ts (mask (GF F gy) W') A m d :=
  ht.ext ((hf.mono GF.gy_).masks (fun _ _ => rfl))
theorem Ts.less {W : World} {G G' : Nat → Bool} {A : Option Addr} {m : Nat} {d : List LV} (ht : Ts (mask G' W) A m d) (h : ∀ k, G k = true → G' k = true) : Ts (mask G W) A m d := Ts.unmask (F := G') (by rw [← mask_mask h]; exact ht)
theorem Ts.clone {w W W' W'' : World} {F F8 : Nat → Bool} {g gy : Nat} {x y : NetV} {A : Option Addr} {m : Nat} {d : List LV} (_h : PN w W F g gy x y) (ht : Ts (mask (GF F gy) W) A m d) (hnew : ∀ k, F8 k = true → W.heap.size ≤ k) (he : Ext W W') (hf : Fr F W' W'') : Ts (mask (GF F8 gy) W'') A m d := by
  have hx : ∀ k, k < W.heap.size → F8 k = false := fun k hk => by
    cases e : F8 k with
    | false => rfl
    | true => have := hnew k e; omega
  have t1 : Ts (mask (fun k => GF F gy k || F8 k) W') A m d := ht.ext ((Fr.of_ext he _).masks (fun k hk => by rw [hx k hk]; simp))
  have t2 : Ts (mask (fun k => GF F gy k || F8 k) W'') A m d := t1.ext ((hf.mono (fun k _ hk => by unfold GF; rw [hk]; rfl)).masks (fun _ _ => rfl))
  refine Ts.less t2 (fun k hk => ?_)
  simp only [GF, Bool.or_eq_true] at hk ⊢
  rcases hk with hk | hk
  · exact .inr hk
  · exact .inl (.inr hk)
/-- letters of the call's own, made behind the nets -/
theorem Ts.own_ {w W W' : World} {F : Nat → Bool} {g gy : Nat} {x y : NetV} {A : Option Addr} {c : Nat} {d : List LV} (h : PN w W F g gy x y) (hrow : W'.ownsRow W.heap.size 26 10 (.slice A d.length c) d.length (thingsOf d)) (hd : ∀ z ∈ d, OwnY W' W.heap.size w z) (he : Ext W W') : Ts (mask (GF F gy) W') A d.length d :=
  Ts.of_own (own_mask hrow fun k hk => by
    have h1 := (hrow.lt k hk).1
    cases e : GF F gy k with
    | false => rfl
    | true => have := h.ub k e; omega) (fun z hz => (hd z hz).okM h.ub ((h.ex.masked (fun k hk => by
      simp only [GF, Bool.or_eq_true, beq_iff_eq] at hk
      rcases hk with hk | rfl
      · exact h.lb k hk
      · exact h.lg)).trans he.masks)) (by omega)
end Go.Proofs.Ytcoaofaofmbfbaa
