/- Rows of the call's own that are stored into; a catalogue whose rows are all the call's own. -/
import Derived.Test.YtiildgoaiookhaaStCl
import Derived.Test.YtiildgoaiookhaaSplit
namespace Go.Proofs.Ytiildgoaiookhaa
open Go.RowKit

theorem own_store {w : World} {base : Nat} {e : TypeId} {size n c g : Nat} {xs : List Value} (h : w.ownsRow base e size (.slice (some ⟨g, 0, none⟩) n c) n xs) (i : Nat) (_ : i < n * size) (u : Value) :
    (w.setCell ⟨g, i, none⟩ u).ownsRow base e size (.slice (some ⟨g, 0, none⟩) n c) n (xs.set i u) := by
  refine ⟨by simpa using h.1, ?_⟩
  rcases h.2 with ⟨hv, h0⟩ | ⟨g', cap, cur, hv, hb, hg, h1, h2, h3, h4⟩
  · cases hv
  · injection hv with hA _ hc
    injection hA with hA
    injection hA with hA _
    subst hA hc
    refine .inr ⟨g, c, _, rfl, hb, heap_setCell_same w g i cur e u hg, h1, h2, ?_, ?_⟩
    · simpa using h3
    · subst h4
      simp [List.take_set]
theorem own_far {w : World} {base : Nat} {e : TypeId} {size n : Nat} {v : Value} {xs : List Value} (h : w.ownsRow base e size v n xs) {p : Addr} (hp : v.ownBlock ≠ some p.block) (u : Value) :
    (w.setCell p u).ownsRow base e size v n xs := by
  refine ⟨h.1, ?_⟩
  rcases h.2 with hn | ⟨g, cap, cur, rfl, hb, hg, rest⟩
  · exact .inl hn
  · refine .inr ⟨g, cap, cur, rfl, hb, ?_, rest⟩
    rw [heap_setCell_other w p g u (by simpa [Value.ownBlock] using hp)]
    exact hg
theorem own_frozen {w : World} {base : Nat} {e : TypeId} {size n c g : Nat} {xs : List Value} (h : w.ownsRow base e size (.slice (some ⟨g, 0, none⟩) n c) n xs) (i : Nat) : w.frozen? ⟨g, i, none⟩ = false := by
  rcases h.2 with ⟨hv, h0⟩ | ⟨g', cap, cur, hv, hb, hg, h1, h2, h3, h4⟩
  · cases hv
  · injection hv with hA _ hc
    injection hA with hA
    injection hA with hA _
    subst hA
    exact frozen_of_row w g i _ e hg
theorem own_cell {w : World} {base : Nat} {e : TypeId} {size n c g : Nat} {xs : List Value} (h : w.ownsRow base e size (.slice (some ⟨g, 0, none⟩) n c) n xs) {i : Nat} {u : Value} (hu : xs[i]? = some u) : w.cell? ⟨g, i, none⟩ = some u := by
  have := h.cells (g := g) rfl i u hu
  rwa [plain_add, Nat.zero_add] at this
/-- an own row of at least one element has a block -/
theorem own_at {w : World} {base : Nat} {e : TypeId} {size n : Nat} {A : Option Addr} {c : Nat} {xs : List Value} (h : w.ownsRow base e size (.slice A n c) n xs) (hn : 0 < n) : ∃ g, A = some ⟨g, 0, none⟩ ∧ base ≤ g ∧ g < w.heap.size := by
  rcases h.2 with ⟨hv, h0⟩ | ⟨g, cap, cur, hv, hb, hg, _⟩
  · omega
  · injection hv with hA
    exact ⟨g, hA, hb, (Array.getElem?_eq_some_iff.1 hg).1⟩
/-- whatever is stored, and wherever: a row of the call's own stays one, of whatever it then has -/
theorem own_some {w : World} {base : Nat} {e : TypeId} {size n : Nat} {v : Value} {xs : List Value} (h : w.ownsRow base e size v n xs) (g i : Nat) (u : Value) : ∃ ys, (w.setCell ⟨g, i, none⟩ u).ownsRow base e size v n ys := by
  by_cases hp : v.ownBlock = some g
  · rcases h.2 with ⟨rfl, h0⟩ | ⟨g', cap, cur, rfl, hb, hg, h1, h2, h3, h4⟩
    · cases hp
    · obtain rfl : g' = g := by simpa [Value.ownBlock] using hp
      refine ⟨_, ?_, .inr ⟨g', cap, _, rfl, hb, heap_setCell_same w g' i cur e u hg, h1, h2, ?_, rfl⟩⟩
      · have := h.1
        simp only [List.length_take, Array.length_toList, Array.size_setIfInBounds, h3]
        exact Nat.min_eq_left (Nat.mul_le_mul_right _ h1)
      · simpa using h3
  · exact ⟨xs, own_far h hp u⟩

theorem thingsOf_set {α : Type} {size : Nat} [T : Thing α size] (l : List α) (j k : Nat) (hj : j < l.length) (hk : k < size) (f : α) (u : Value) (hf : T.cells f = (T.cells l[j]).set k u) :
    (thingsOf l).set (j * size + k) u = thingsOf (l.set j f) := by
  induction l generalizing j with
  | nil => simp at hj
  | cons a r ih =>
    have hla := T.len a
    cases j with
    | zero =>
      simp only [List.getElem_cons_zero] at hf
      simp only [Nat.zero_mul, Nat.zero_add, thingsOf, List.map_cons, List.flatten_cons, List.set_cons_zero, hf]
      rw [List.set_append_left _ _ (by omega)]
    | succ j =>
      have h := ih j (by simpa using hj) (by simpa using hf)
      simp only [thingsOf, List.map_cons, List.flatten_cons, List.set_cons_succ] at h ⊢
      rw [← h, List.set_append_right _ _ (by rw [hla, Nat.succ_mul]; omega), hla]
      congr 2
      rw [Nat.succ_mul]; omega

/-- a snapshot whose chunks are the call's own -/
structure OwnN (w : World) (B : Nat) (f : NV) : Prop where
  u0 : I64 f.id
  u1 : I64 f.set
  own : w.ownsRow B 3 1 (.slice f.A f.len f.cap) f.len (f.ch.map (Value.int .i64))
  uc : ∀ x ∈ f.ch, I64 x
  ut : f.tag.size ≤ maxLen
theorem OwnN.ok {w : World} {B : Nat} {f : NV} (h : OwnN w B f) : f.Ok w := ⟨h.u0, h.u1, Is.of_own h.own, (own_cap h.own).1, (own_cap h.own).2, h.uc, h.ut⟩
theorem OwnN.ext {w w' : World} {B : Nat} {f : NV} (h : OwnN w B f) (he : Ext w w') : OwnN w' B f := ⟨h.u0, h.u1, own_ext h.own he, h.uc, h.ut⟩
theorem OwnN.set {w : World} {B : Nat} {f : NV} (h : OwnN w B f) {p : Addr} (hp : p.block < B) (u : Value) : OwnN (w.setCell p u) B f := ⟨h.u0, h.u1, own_set h.own hp u, h.uc, h.ut⟩
theorem OwnN.grown {w w' : World} {B : Nat} {f : NV} (h : OwnN w B f) {row : Option Nat} (hg : w.grownBy w' row) (hr : ∀ k, row = some k → k < B ∨ ∃ e xs size v n, e ≠ 3 ∧ v.ownBlock = some k ∧ w.ownsRow B e size v n xs) : OwnN w' B f := by
  refine ⟨h.u0, h.u1, ?_, h.uc, h.ut⟩
  have ho := h.own
  refine ⟨ho.1, ?_⟩
  rcases ho.2 with hn | ⟨g, cap, cur, hv, hb, hgg, rest⟩
  · exact .inl hn
  · refine .inr ⟨g, cap, cur, hv, hb, ?_, rest⟩
    rw [hg.block g (Array.getElem?_eq_some_iff.1 hgg).1 (fun e => ?_)]
    · exact hgg
    · rcases hr g e.symm with hlt | ⟨e', xs, size, v, n, hne, hvb, hrow⟩
      · omega
      · rcases own_apart hrow ho hne with h1 | h1
        · rw [hvb] at h1; cases h1
        · rw [hvb, hv] at h1; exact h1 rfl
/-- a catalogue whose rows are all the call's own -/
structure OwnK (w : World) (B : Nat) (t : KV) : Prop where
  u0 : I64 t.ver
  u1 : I64 t.next
  u2 : I64 t.keep
  u3 : I64 t.quota
  o1 : w.ownsRow B 45 4 (.slice t.A1 t.n1 t.c1) t.n1 (thingsOf t.ses)
  o2 : w.ownsRow B 47 2 (.slice t.A2 t.n2 t.c2) t.n2 (thingsOf t.ops)
  o3 : w.ownsRow B 33 5 (.slice t.A3 t.n3 t.c3) t.n3 (thingsOf t.sns)
  k1 : ∀ f ∈ t.ses, f.Ok w
  k2 : ∀ f ∈ t.ops, f.Ok w
  k3 : ∀ f ∈ t.sns, OwnN w B f
theorem OwnK.ok {w : World} {B : Nat} {t : KV} (h : OwnK w B t) : t.Ok w :=
  ⟨h.u0, h.u1, h.u2, h.u3, Ts.of_own h.o1 h.k1 (by omega), (own_cap h.o1).1, (own_cap h.o1).2, Ts.of_own h.o2 h.k2 (by omega), (own_cap h.o2).1, (own_cap h.o2).2,
    Ts.of_own h.o3 (fun f hf => (h.k3 f hf).ok) (by omega), (own_cap h.o3).1, (own_cap h.o3).2⟩
theorem OwnK.ext {w w' : World} {B : Nat} {t : KV} (h : OwnK w B t) (he : Ext w w') : OwnK w' B t :=
  ⟨h.u0, h.u1, h.u2, h.u3, own_ext h.o1 he, own_ext h.o2 he, own_ext h.o3 he, fun f hf => Thing.ext (α := CV) (h.k1 f hf) he, fun f hf => Thing.ext (α := OV) (h.k2 f hf) he, fun f hf => (h.k3 f hf).ext he⟩
theorem OwnK.set {w : World} {B : Nat} {t : KV} (h : OwnK w B t) {p : Addr} (hp : p.block < B) (u : Value) : OwnK (w.setCell p u) B t :=
  ⟨h.u0, h.u1, h.u2, h.u3, own_set h.o1 hp u, own_set h.o2 hp u, own_set h.o3 hp u, fun f hf => ⟨(h.k1 f hf).u0, (h.k1 f hf).u1, (h.k1 f hf).u2, (h.k1 f hf).u3⟩, fun f hf => ⟨(h.k2 f hf).u0, (h.k2 f hf).u1⟩, fun f hf => (h.k3 f hf).set hp u⟩
/-- what a snapshot says, without where its chunks lie -/
def NV.s (f : NV) : Int × Int × Nat × List Int × Bool × ByteArray := (f.id, f.set, f.len, f.ch, f.held, f.tag)
theorem nvEq_s {f g : NV} (h : f.s = g.s) : nvEq f g = true := by
  simp only [NV.s, Prod.mk.injEq] at h
  rw [nvEq_iff]; exact ⟨h.1, h.2.1, h.2.2.2.2.1, h.2.2.2.2.2, h.2.2.2.1⟩
theorem snsEq_s : ∀ {l m : List NV}, l.map NV.s = m.map NV.s → snsEq l m = true
  | [], [], _ => rfl
  | [], _ :: _, h => by simp at h
  | _ :: _, [], h => by simp at h
  | a :: l, b :: m, h => by
    simp only [List.map_cons, List.cons.injEq] at h
    rw [snsEq_cons, nvEq_s h.1, snsEq_s h.2]; rfl
/-- t says what s says -/
structure AsK (s t : KV) : Prop where
  ver : t.ver = s.ver
  next : t.next = s.next
  keep : t.keep = s.keep
  quota : t.quota = s.quota
  n1 : t.n1 = s.n1
  ses : t.ses = s.ses
  n2 : t.n2 = s.n2
  ops : t.ops = s.ops
  n3 : t.n3 = s.n3
  sns : t.sns.map NV.s = s.sns.map NV.s
theorem AsK.same {s t : KV} (h : AsK s t) : kSame s t = true := by
  unfold kSame
  simp [h.ver, h.next, h.keep, h.quota, h.ses, h.ops, snsEq_s h.sns.symm]
theorem AsK.same' {s t : KV} (h : AsK s t) : kSame t s = true := by
  unfold kSame
  simp [h.ver, h.next, h.keep, h.quota, h.ses, h.ops, snsEq_s h.sns]
theorem s_len {l m : List NV} (h : m.map NV.s = l.map NV.s) {b : Nat} (hl : ∀ f ∈ l, f.len ≤ b) : ∀ f ∈ m, f.len ≤ b := by
  intro f hf
  have : f.s ∈ l.map NV.s := by rw [← h]; exact List.mem_map_of_mem hf
  obtain ⟨g, hg, e⟩ := List.mem_map.1 this
  simp only [NV.s, Prod.mk.injEq] at e
  rw [← e.2.2.1]; exact hl g hg
theorem AsK.few {s t : KV} (h : AsK s t) (hs : s.Few) : t.Few := ⟨by rw [h.n1]; exact hs.n1, by rw [h.n2]; exact hs.n2, by rw [h.n3]; exact hs.n3, s_len h.sns hs.ch⟩
end Go.Proofs.Ytiildgoaiookhaa
