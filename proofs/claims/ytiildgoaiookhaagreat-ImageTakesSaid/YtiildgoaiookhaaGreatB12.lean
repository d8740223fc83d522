/- Words and walks that the last text of this claim stands on: Chk, StCm, StR, StT, StX. No condition. -/
import Derived.Test.YtiildgoaiookhaaGreatB05
import Derived.Test.YtiildgoaiookhaaGreatB09
import Derived.Test.YtiildgoaiookhaaGreatB08
import Derived.Test.YtiildgoaiookhaaGreatB10
/- Whether fields may be a record's, in plain words. No program in sight. -/
namespace Go.Proofs.YtiildgoaiookhaaGreat
open Go.RowKit

/-- how often a number stands there -/
def cnt (k : Int) (l : List FV) : Nat := (l.filter (fun f => f.num == k)).length
theorem cnt_snoc (k : Int) (l : List FV) (j : Nat) (h : j < l.length) : cnt k (l.take (j + 1)) = cnt k (l.take j) + if l[j].num = k then 1 else 0 := by
  unfold cnt
  rw [List.take_succ_eq_append_getElem h, List.filter_append, List.length_append]
  congr 1
  simp only [List.filter_cons, List.filter_nil]
  by_cases e : l[j].num = k <;> simp [e]
theorem cnt_le (k : Int) (l : List FV) : cnt k l ≤ l.length := List.length_filter_le _ _
theorem cnt_take (k : Int) (l : List FV) (j : Nat) : cnt k (l.take j) ≤ cnt k l := by
  unfold cnt
  exact ((List.take_sublist j l).filter _).length_le
/-- is a field not empty -/
def fullB (f : FV) : Bool := if f.wire = 0 then decide (f.n ≠ 0) else decide (0 < f.len)
/-- is a field, that stands there for the t-th time, as its spec says -/
def isB (f : FV) (s : SpV) (t : Nat) : Bool := (decide (f.wire = (s.wire : Int)) && (decide (t ≤ 1) || s.many)) && fullB f
def oneB (s : SpV) (l : List FV) : Bool := l.all fun f => !(f.num == (s.num : Int)) || (decide (f.wire = (s.wire : Int)) && fullB f)
def specB (s : SpV) (l : List FV) : Bool := oneB s l && ((decide (cnt s.num l ≤ 1) || s.many) && (!s.need || decide (0 < cnt s.num l)))
/-- may fields be those of the specs -/
def okB (S : List SpV) (l : List FV) : Bool := S.all fun s => specB s l
def checkN (S : List SpV) (l : List FV) : Nat := if S = [] then 1 else if fmay l ≠ 0 then fmay l else if okB S l then 0 else 6

theorem okB_false {S : List SpV} {l : List FV} {s : SpV} (hs : s ∈ S) (h : specB s l = false) : okB S l = false := by
  unfold okB
  rw [List.all_eq_false]
  exact ⟨s, hs, by simp [h]⟩
theorem ok_early {S : List SpV} {l : List FV} {s : SpV} (hs : s ∈ S) {j : Nat} (hj : j < l.length) (hn : l[j].num = (s.num : Int)) (h : isB l[j] s (cnt l[j].num (l.take (j + 1))) = false) : okB S l = false := by
  refine okB_false hs ?_
  unfold specB
  by_cases h1 : oneB s l = true
  · rw [h1, Bool.true_and]
    have h2 : decide (l[j].wire = (s.wire : Int)) && fullB l[j] = true := by
      have := List.all_eq_true.1 h1 l[j] (List.getElem_mem _)
      simpa [hn] using this
    simp only [Bool.and_eq_true, decide_eq_true_eq] at h2
    unfold isB at h
    rw [h2.2, decide_eq_true h2.1] at h
    simp only [Bool.true_and, Bool.and_true, Bool.or_eq_false_iff, decide_eq_false_iff_not] at h
    have := cnt_take l[j].num l (j + 1)
    rw [hn] at h this
    have e : decide (cnt (s.num : Int) l ≤ 1) = false := by simp; omega
    rw [e, h.2]; rfl
  · have : oneB s l = false := by simpa using h1
    rw [this, Bool.false_and]
theorem ok_need {S : List SpV} {l : List FV} {s : SpV} (hs : s ∈ S) (hn : s.need = true) (h : cnt s.num l = 0) : okB S l = false := by
  refine okB_false hs ?_
  unfold specB
  rw [hn, h]; simp
theorem last_at' (k : Int) : ∀ (n : Nat) (l : List FV), l.length = n → 0 < cnt k l → ∃ j, ∃ h : j < l.length, l[j].num = k ∧ cnt k (l.take (j + 1)) = cnt k l
  | 0, l, h, hc => by
    have := cnt_le k l
    omega
  | n + 1, l, h, hc => by
    have hsn := cnt_snoc k l n (by omega)
    rw [List.take_of_length_le (show l.length ≤ n + 1 by omega)] at hsn
    by_cases e : (l[n]'(by omega)).num = k
    · exact ⟨n, by omega, e, by rw [List.take_of_length_le (by omega)]⟩
    · rw [if_neg e, Nat.add_zero] at hsn
      obtain ⟨j, hj, h1, h2⟩ := last_at' k n (l.take n) (by rw [List.length_take]; omega) (by omega)
      rw [List.length_take] at hj
      refine ⟨j, by omega, ?_, ?_⟩
      · rw [← h1]; simp
      · rw [hsn, ← h2, List.take_take]; congr 2; omega
theorem last_at (k : Int) (l : List FV) (hc : 0 < cnt k l) : ∃ j, ∃ h : j < l.length, l[j].num = k ∧ cnt k (l.take (j + 1)) = cnt k l := last_at' k _ l rfl hc
theorem ok_all {S : List SpV} {l : List FV} (h1 : ∀ j (hj : j < l.length) q (hq : q < S.length), l[j].num = (S[q].num : Int) → isB l[j] S[q] (cnt l[j].num (l.take (j + 1))) = true)
    (h2 : ∀ q (hq : q < S.length), S[q].need = true → 0 < cnt S[q].num l) : okB S l = true := by
  unfold okB
  rw [List.all_eq_true]
  intro s hs
  obtain ⟨q, hq, rfl⟩ := List.getElem_of_mem hs
  unfold specB
  have e1 : oneB S[q] l = true := by
    unfold oneB
    rw [List.all_eq_true]
    intro f hf
    obtain ⟨j, hj, rfl⟩ := List.getElem_of_mem hf
    by_cases e : l[j].num = (S[q].num : Int)
    · have := h1 j hj q hq e
      unfold isB at this
      simp only [Bool.and_eq_true] at this
      simp [e, this.2, of_decide_eq_true this.1.1]
    · simp [e]
  rw [e1, Bool.true_and]
  have e2 : (decide (cnt S[q].num l ≤ 1) || S[q].many) = true := by
    by_cases c : cnt S[q].num l ≤ 1
    · simp [c]
    · obtain ⟨j, hj, h3, h4⟩ := last_at S[q].num l (by omega)
      have := h1 j hj q hq h3
      unfold isB at this
      rw [h3, h4] at this
      simp only [Bool.and_eq_true, Bool.or_eq_true, decide_eq_true_eq] at this
      simp only [Bool.or_eq_true, decide_eq_true_eq]
      exact this.1.2
  rw [e2, Bool.true_and]
  by_cases c : S[q].need = true
  · simp [h2 q hq c]
  · have : S[q].need = false := by simpa using c
    simp [this]
theorem ok_specs {S : List SpV} {l : List FV} (h : ∀ q (hq : q < S.length), specB S[q] l = true) : okB S l = true := by
  unfold okB
  rw [List.all_eq_true]
  intro s hs
  obtain ⟨q, hq, rfl⟩ := List.getElem_of_mem hs
  exact h q hq
end Go.Proofs.YtiildgoaiookhaaGreat

/- Rows of the call's own that are stored into; a catalogue whose rows are all the call's own. -/
namespace Go.Proofs.YtiildgoaiookhaaGreat
open Go.RowKit

theorem own_store {w : World} {base : Nat} {e : TypeId} {size n c g : Nat} {xs : List Value} (h : w.ownsRow base e size (.slice (some ⟨g, 0, none⟩) n c) n xs) (i : Nat) (_ : i < n * size) (u : Value) :
    (w.setCell ⟨g, i, none⟩ u).ownsRow base e size (.slice (some ⟨g, 0, none⟩) n c) n (xs.set i u) := by
  refine ⟨by simpa using h.1, ?_⟩
  rcases h.2 with ⟨hv, h0⟩ | ⟨g', cap, cur, hv, hb, hg, h1, h2, h3, h4⟩
  · cases hv
  · injection hv with hA _ hc
    injection hA with hA
    injection hA with hA _
    subst hA hc
    refine .inr ⟨g, c, _, rfl, hb, heap_setCell_same w g i cur e u hg, h1, h2, ?_, ?_⟩
    · simpa using h3
    · subst h4
      simp [List.take_set]
theorem own_far {w : World} {base : Nat} {e : TypeId} {size n : Nat} {v : Value} {xs : List Value} (h : w.ownsRow base e size v n xs) {p : Addr} (hp : v.ownBlock ≠ some p.block) (u : Value) :
    (w.setCell p u).ownsRow base e size v n xs := by
  refine ⟨h.1, ?_⟩
  rcases h.2 with hn | ⟨g, cap, cur, rfl, hb, hg, rest⟩
  · exact .inl hn
  · refine .inr ⟨g, cap, cur, rfl, hb, ?_, rest⟩
    rw [heap_setCell_other w p g u (by simpa [Value.ownBlock] using hp)]
    exact hg
theorem own_frozen {w : World} {base : Nat} {e : TypeId} {size n c g : Nat} {xs : List Value} (h : w.ownsRow base e size (.slice (some ⟨g, 0, none⟩) n c) n xs) (i : Nat) : w.frozen? ⟨g, i, none⟩ = false := by
  rcases h.2 with ⟨hv, h0⟩ | ⟨g', cap, cur, hv, hb, hg, h1, h2, h3, h4⟩
  · cases hv
  · injection hv with hA _ hc
    injection hA with hA
    injection hA with hA _
    subst hA
    exact frozen_of_row w g i _ e hg
theorem own_cell {w : World} {base : Nat} {e : TypeId} {size n c g : Nat} {xs : List Value} (h : w.ownsRow base e size (.slice (some ⟨g, 0, none⟩) n c) n xs) {i : Nat} {u : Value} (hu : xs[i]? = some u) : w.cell? ⟨g, i, none⟩ = some u := by
  have := h.cells (g := g) rfl i u hu
  rwa [plain_add, Nat.zero_add] at this
/-- an own row of at least one element has a block -/
theorem own_at {w : World} {base : Nat} {e : TypeId} {size n : Nat} {A : Option Addr} {c : Nat} {xs : List Value} (h : w.ownsRow base e size (.slice A n c) n xs) (hn : 0 < n) : ∃ g, A = some ⟨g, 0, none⟩ ∧ base ≤ g ∧ g < w.heap.size := by
  rcases h.2 with ⟨hv, h0⟩ | ⟨g, cap, cur, hv, hb, hg, _⟩
  · omega
  · injection hv with hA
    exact ⟨g, hA, hb, (Array.getElem?_eq_some_iff.1 hg).1⟩
/-- whatever is stored, and wherever: a row of the call's own stays one, of whatever it then has -/
theorem own_some {w : World} {base : Nat} {e : TypeId} {size n : Nat} {v : Value} {xs : List Value} (h : w.ownsRow base e size v n xs) (g i : Nat) (u : Value) : ∃ ys, (w.setCell ⟨g, i, none⟩ u).ownsRow base e size v n ys := by
  by_cases hp : v.ownBlock = some g
  · rcases h.2 with ⟨rfl, h0⟩ | ⟨g', cap, cur, rfl, hb, hg, h1, h2, h3, h4⟩
    · cases hp
    · obtain rfl : g' = g := by simpa [Value.ownBlock] using hp
      refine ⟨_, ?_, .inr ⟨g', cap, _, rfl, hb, heap_setCell_same w g' i cur e u hg, h1, h2, ?_, rfl⟩⟩
      · have := h.1
        simp only [List.length_take, Array.length_toList, Array.size_setIfInBounds, h3]
        exact Nat.min_eq_left (Nat.mul_le_mul_right _ h1)
      · simpa using h3
  · exact ⟨xs, own_far h hp u⟩

theorem thingsOf_set {α : Type} {size : Nat} [T : Thing α size] (l : List α) (j k : Nat) (hj : j < l.length) (hk : k < size) (f : α) (u : Value) (hf : T.cells f = (T.cells l[j]).set k u) :
    (thingsOf l).set (j * size + k) u = thingsOf (l.set j f) := by
  induction l generalizing j with
  | nil => simp at hj
  | cons a r ih =>
    have hla := T.len a
    cases j with
    | zero =>
      simp only [List.getElem_cons_zero] at hf
      simp only [Nat.zero_mul, Nat.zero_add, thingsOf, List.map_cons, List.flatten_cons, List.set_cons_zero, hf]
      rw [List.set_append_left _ _ (by omega)]
    | succ j =>
      have h := ih j (by simpa using hj) (by simpa using hf)
      simp only [thingsOf, List.map_cons, List.flatten_cons, List.set_cons_succ] at h ⊢
      rw [← h, List.set_append_right _ _ (by rw [hla, Nat.succ_mul]; omega), hla]
      congr 2
      rw [Nat.succ_mul]; omega

/-- a snapshot whose chunks are the call's own -/
structure OwnN (w : World) (B : Nat) (f : NV) : Prop where
  u0 : I64 f.id
  u1 : I64 f.set
  own : w.ownsRow B 3 1 (.slice f.A f.len f.cap) f.len (f.ch.map (Value.int .i64))
  uc : ∀ x ∈ f.ch, I64 x
  ut : f.tag.size ≤ maxLen
theorem OwnN.ok {w : World} {B : Nat} {f : NV} (h : OwnN w B f) : f.Ok w := ⟨h.u0, h.u1, Is.of_own h.own, (own_cap h.own).1, (own_cap h.own).2, h.uc, h.ut⟩
theorem OwnN.ext {w w' : World} {B : Nat} {f : NV} (h : OwnN w B f) (he : Ext w w') : OwnN w' B f := ⟨h.u0, h.u1, own_ext h.own he, h.uc, h.ut⟩
theorem OwnN.set {w : World} {B : Nat} {f : NV} (h : OwnN w B f) {p : Addr} (hp : p.block < B) (u : Value) : OwnN (w.setCell p u) B f := ⟨h.u0, h.u1, own_set h.own hp u, h.uc, h.ut⟩
theorem OwnN.grown {w w' : World} {B : Nat} {f : NV} (h : OwnN w B f) {row : Option Nat} (hg : w.grownBy w' row) (hr : ∀ k, row = some k → k < B ∨ ∃ e xs size v n, e ≠ 3 ∧ v.ownBlock = some k ∧ w.ownsRow B e size v n xs) : OwnN w' B f := by
  refine ⟨h.u0, h.u1, ?_, h.uc, h.ut⟩
  have ho := h.own
  refine ⟨ho.1, ?_⟩
  rcases ho.2 with hn | ⟨g, cap, cur, hv, hb, hgg, rest⟩
  · exact .inl hn
  · refine .inr ⟨g, cap, cur, hv, hb, ?_, rest⟩
    rw [hg.block g (Array.getElem?_eq_some_iff.1 hgg).1 (fun e => ?_)]
    · exact hgg
    · rcases hr g e.symm with hlt | ⟨e', xs, size, v, n, hne, hvb, hrow⟩
      · omega
      · rcases own_apart hrow ho hne with h1 | h1
        · rw [hvb] at h1; cases h1
        · rw [hvb, hv] at h1; exact h1 rfl
/-- a catalogue whose rows are all the call's own -/
structure OwnK (w : World) (B : Nat) (t : KV) : Prop where
  u0 : I64 t.ver
  u1 : I64 t.next
  u2 : I64 t.keep
  u3 : I64 t.quota
  o1 : w.ownsRow B 63 4 (.slice t.A1 t.n1 t.c1) t.n1 (thingsOf t.ses)
  o2 : w.ownsRow B 65 2 (.slice t.A2 t.n2 t.c2) t.n2 (thingsOf t.ops)
  o3 : w.ownsRow B 70 5 (.slice t.A3 t.n3 t.c3) t.n3 (thingsOf t.sns)
  k1 : ∀ f ∈ t.ses, f.Ok w
  k2 : ∀ f ∈ t.ops, f.Ok w
  k3 : ∀ f ∈ t.sns, OwnN w B f
theorem OwnK.ok {w : World} {B : Nat} {t : KV} (h : OwnK w B t) : t.Ok w :=
  ⟨h.u0, h.u1, h.u2, h.u3, Ts.of_own h.o1 h.k1 (by omega), (own_cap h.o1).1, (own_cap h.o1).2, Ts.of_own h.o2 h.k2 (by omega), (own_cap h.o2).1, (own_cap h.o2).2,
    Ts.of_own h.o3 (fun f hf => (h.k3 f hf).ok) (by omega), (own_cap h.o3).1, (own_cap h.o3).2⟩
theorem OwnK.ext {w w' : World} {B : Nat} {t : KV} (h : OwnK w B t) (he : Ext w w') : OwnK w' B t :=
  ⟨h.u0, h.u1, h.u2, h.u3, own_ext h.o1 he, own_ext h.o2 he, own_ext h.o3 he, fun f hf => Thing.ext (α := CV) (h.k1 f hf) he, fun f hf => Thing.ext (α := OV) (h.k2 f hf) he, fun f hf => (h.k3 f hf).ext he⟩
theorem OwnK.set {w : World} {B : Nat} {t : KV} (h : OwnK w B t) {p : Addr} (hp : p.block < B) (u : Value) : OwnK (w.setCell p u) B t :=
  ⟨h.u0, h.u1, h.u2, h.u3, own_set h.o1 hp u, own_set h.o2 hp u, own_set h.o3 hp u, fun f hf => ⟨(h.k1 f hf).u0, (h.k1 f hf).u1, (h.k1 f hf).u2, (h.k1 f hf).u3⟩, fun f hf => ⟨(h.k2 f hf).u0, (h.k2 f hf).u1⟩, fun f hf => (h.k3 f hf).set hp u⟩
/-- what a snapshot says, without where its chunks lie -/
def NV.s (f : NV) : Int × Int × Nat × List Int × Bool × ByteArray := (f.id, f.set, f.len, f.ch, f.held, f.tag)
theorem nvEq_s {f g : NV} (h : f.s = g.s) : nvEq f g = true := by
  simp only [NV.s, Prod.mk.injEq] at h
  rw [nvEq_iff]; exact ⟨h.1, h.2.1, h.2.2.2.2.1, h.2.2.2.2.2, h.2.2.2.1⟩
theorem snsEq_s : ∀ {l m : List NV}, l.map NV.s = m.map NV.s → snsEq l m = true
  | [], [], _ => rfl
  | [], _ :: _, h => by simp at h
  | _ :: _, [], h => by simp at h
  | a :: l, b :: m, h => by
    simp only [List.map_cons, List.cons.injEq] at h
    rw [snsEq_cons, nvEq_s h.1, snsEq_s h.2]; rfl
/-- t says what s says -/
structure AsK (s t : KV) : Prop where
  ver : t.ver = s.ver
  next : t.next = s.next
  keep : t.keep = s.keep
  quota : t.quota = s.quota
  n1 : t.n1 = s.n1
  ses : t.ses = s.ses
  n2 : t.n2 = s.n2
  ops : t.ops = s.ops
  n3 : t.n3 = s.n3
  sns : t.sns.map NV.s = s.sns.map NV.s
theorem AsK.same {s t : KV} (h : AsK s t) : kSame s t = true := by
  unfold kSame
  simp [h.ver, h.next, h.keep, h.quota, h.ses, h.ops, snsEq_s h.sns.symm]
theorem AsK.same' {s t : KV} (h : AsK s t) : kSame t s = true := by
  unfold kSame
  simp [h.ver, h.next, h.keep, h.quota, h.ses, h.ops, snsEq_s h.sns]
theorem s_len {l m : List NV} (h : m.map NV.s = l.map NV.s) {b : Nat} (hl : ∀ f ∈ l, f.len ≤ b) : ∀ f ∈ m, f.len ≤ b := by
  intro f hf
  have : f.s ∈ l.map NV.s := by rw [← h]; exact List.mem_map_of_mem hf
  obtain ⟨g, hg, e⟩ := List.mem_map.1 this
  simp only [NV.s, Prod.mk.injEq] at e
  rw [← e.2.2.1]; exact hl g hg
theorem AsK.few {s t : KV} (h : AsK s t) (hs : s.Few) : t.Few := ⟨by rw [h.n1]; exact hs.n1, by rw [h.n2]; exact hs.n2, by rw [h.n3]; exact hs.n3, s_len h.sns hs.ch⟩
end Go.Proofs.YtiildgoaiookhaaGreat

/- The walk of coracleref07.snap. (Printed by wip/tools/stsnap.py.) -/
namespace Go.Proofs.YtiildgoaiookhaaGreat
open Go.RowKit

/-- what the reference says of a snapshot -/
def snR (ver nx : Int) (f : NV) : Bool := rowChB f.ch && (inI f.id 1 nx && (inI f.set 1 8 && ((!f.held || decide (2 ≤ ver)) && (decide (f.tag.size ≤ 16) && (decide (f.tag = ⟨#[]⟩) || decide (3 ≤ ver))))))
theorem tag_ne {s : ByteArray} (h : s ≠ ⟨#[]⟩) : s.toList.isEmpty = false := by
  rw [ByteArray.toList_eq]
  rcases hs : s.data.toList with _ | ⟨a, r⟩
  · exfalso; apply h; apply ByteArray.ext; apply Array.ext'; simpa using hs
  · rfl
set_option maxRecDepth 100000 in
set_option maxHeartbeats 3200000 in
theorem ref07_snap (f : NV) (next nx ver : Int) (b : Bool) (hb : snR ver nx f = b) (w : World) (hf : f.Ok w) (hl : f.len ≤ 1000000) (hnx : IntKind.i64.wrap (next - 1) = nx) :
    Calls Tryz.prog 87 #[.agg f.cells.toArray, .int .i64 next, .int .i64 ver] w fun e w' => e = .returned (.bool b) ∧ Ext w w' := by
  have hcs := hf.cs
  have htg := hf.ut
  obtain ⟨a, s, A, ln, cp, ch, hd, tg⟩ := f
  unfold NV.cells
  unfold snR at hb
  dsimp only at hb hcs hl htg ⊢
  unfold maxLen at htg
  have hB := Blk.new w 70 [.int .i64 a, .int .i64 s, .slice A ln cp, .bool hd, .string tg]
  have xa : Ext w (w.alloc (.cells #[.int .i64 a, .int .i64 s, .slice A ln cp, .bool hd, .string tg] 70)) := (Ext.refl w).alloc _
  have HR := Lib.hid (ref05_Row A ln cp ch _ (hcs.ext xa) hl)
  have N1 := Lib.hid (fun b hb w => ref07_in a 1 nx b hb w)
  have N2 := Lib.hid (fun b hb w => ref07_in s 1 8 b hb w)
  clear hf hcs
  generalize rowChB ch = b1 at *
  generalize inI a 1 nx = b2 at *
  generalize inI s 1 8 = b3 at *
  rcases b1 with _ | _
  · simp only [Bool.false_and] at hb
    subst hb
    clear N1 N2
    go_enter Tryz.func87, Tryz.ntmps87
    go_wp2_with fail
    refine HR.out.mono ?_
    rintro e w1 ⟨rfl, y1⟩
    have hB1 := hB.ext y1
    have d0 := hB1.cell 0
    have d1 := hB1.cell 1
    have d3 := hB1.cell 3
    have d4 := hB1.cell 4
    simp only [List.getElem?_cons_zero, List.getElem?_cons_succ] at d0 d1 d3 d4
    go_wp2
    go_ret
    exact ⟨rfl, xa.trans y1⟩
  rw [Bool.true_and] at hb
  rcases b2 with _ | _
  · simp only [Bool.false_and] at hb
    subst hb
    have M1 := Lib.hid (N1.out false rfl)
    clear N1 N2
    go_enter Tryz.func87, Tryz.ntmps87
    go_wp2_with fail
    refine HR.out.mono ?_
    rintro e w1 ⟨rfl, y1⟩
    have hB1 := hB.ext y1
    have d0 := hB1.cell 0
    have d1 := hB1.cell 1
    have d3 := hB1.cell 3
    have d4 := hB1.cell 4
    simp only [List.getElem?_cons_zero, List.getElem?_cons_succ] at d0 d1 d3 d4
    go_wp2_with (first | (go_at_call 86; ((with_reducible refine (M1.out _).mono ?_); rintro e w2 ⟨rfl, rfl⟩)))
    go_ret
    exact ⟨rfl, xa.trans y1⟩
  rw [Bool.true_and] at hb
  have M1 := Lib.hid (N1.out true rfl)
  rcases b3 with _ | _
  · simp only [Bool.false_and] at hb
    subst hb
    have M2 := Lib.hid (N2.out false rfl)
    clear N1 N2
    go_enter Tryz.func87, Tryz.ntmps87
    go_wp2_with fail
    refine HR.out.mono ?_
    rintro e w1 ⟨rfl, y1⟩
    have hB1 := hB.ext y1
    have d0 := hB1.cell 0
    have d1 := hB1.cell 1
    have d3 := hB1.cell 3
    have d4 := hB1.cell 4
    simp only [List.getElem?_cons_zero, List.getElem?_cons_succ] at d0 d1 d3 d4
    go_wp2_with (first | (go_at_call 86; ((with_reducible refine (M1.out _).mono ?_); rintro e w2 ⟨rfl, rfl⟩)) | (go_at_call 86; ((with_reducible refine (M2.out _).mono ?_); rintro e w2 ⟨rfl, rfl⟩)))
    go_ret
    exact ⟨rfl, xa.trans y1⟩
  rw [Bool.true_and] at hb
  have M2 := Lib.hid (N2.out true rfl)
  clear N1 N2
  by_cases hv : hd = true ∧ ver < 2
  · obtain ⟨rfl, hv⟩ := hv
    have hv' : decide (2 ≤ ver) = false := dec_f (by omega)
    rw [hv'] at hb
    simp only [Bool.not_true, Bool.or_self, Bool.false_and] at hb
    subst hb
    go_enter Tryz.func87, Tryz.ntmps87
    go_wp2_with fail
    refine HR.out.mono ?_
    rintro e w1 ⟨rfl, y1⟩
    have hB1 := hB.ext y1
    have d0 := hB1.cell 0
    have d1 := hB1.cell 1
    have d3 := hB1.cell 3
    have d4 := hB1.cell 4
    simp only [List.getElem?_cons_zero, List.getElem?_cons_succ] at d0 d1 d3 d4
    go_wp2_with (first | (go_at_call 86; ((with_reducible refine (M1.out _).mono ?_); rintro e w2 ⟨rfl, rfl⟩)) | (go_at_call 86; ((with_reducible refine (M2.out _).mono ?_); rintro e w2 ⟨rfl, rfl⟩)))
    go_ret
    exact ⟨rfl, xa.trans y1⟩
  have hg : (!hd || decide (2 ≤ ver)) = true := by
    rcases hd with _ | _
    · rfl
    · rw [dec_t (show 2 ≤ ver by simp at hv; omega)]; rfl
  rw [hg, Bool.true_and] at hb
  have hg2 : hd = false ∨ hd = true ∧ 2 ≤ ver := by
    rcases hd with _ | _
    · exact .inl rfl
    · exact .inr ⟨rfl, by simp at hv; omega⟩
  clear hg hv
  by_cases h16 : tg.size ≤ 16
  case neg =>
    rw [dec_f h16, Bool.false_and] at hb
    subst hb
    have k16 : decide ((tg.size : Int) ≤ 16) = false := dec_f (by omega)
    rcases hg2 with rfl | ⟨rfl, hv⟩
    · go_enter Tryz.func87, Tryz.ntmps87
      go_wp2_with fail
      refine HR.out.mono ?_
      rintro e w1 ⟨rfl, y1⟩
      have hB1 := hB.ext y1
      have d0 := hB1.cell 0
      have d1 := hB1.cell 1
      have d3 := hB1.cell 3
      have d4 := hB1.cell 4
      simp only [List.getElem?_cons_zero, List.getElem?_cons_succ] at d0 d1 d3 d4
      go_wp2_with (first | (go_at_call 86; ((with_reducible refine (M1.out _).mono ?_); rintro e w2 ⟨rfl, rfl⟩)) | (go_at_call 86; ((with_reducible refine (M2.out _).mono ?_); rintro e w2 ⟨rfl, rfl⟩)))
      go_ret
      exact ⟨rfl, xa.trans y1⟩
    · have hv' : decide (2 ≤ ver) = true := dec_t hv
      go_enter Tryz.func87, Tryz.ntmps87
      go_wp2_with fail
      refine HR.out.mono ?_
      rintro e w1 ⟨rfl, y1⟩
      have hB1 := hB.ext y1
      have d0 := hB1.cell 0
      have d1 := hB1.cell 1
      have d3 := hB1.cell 3
      have d4 := hB1.cell 4
      simp only [List.getElem?_cons_zero, List.getElem?_cons_succ] at d0 d1 d3 d4
      go_wp2_with (first | (go_at_call 86; ((with_reducible refine (M1.out _).mono ?_); rintro e w2 ⟨rfl, rfl⟩)) | (go_at_call 86; ((with_reducible refine (M2.out _).mono ?_); rintro e w2 ⟨rfl, rfl⟩)))
      go_ret
      exact ⟨rfl, xa.trans y1⟩
  rw [dec_t h16, Bool.true_and] at hb
  have k16 : decide ((tg.size : Int) ≤ 16) = true := dec_t (by omega)
  by_cases ht : tg = ⟨#[]⟩
  · rw [dec_t ht, Bool.true_or] at hb
    subst hb
    subst ht
    rcases hg2 with rfl | ⟨rfl, hv⟩
    · go_enter Tryz.func87, Tryz.ntmps87
      go_wp2_with fail
      refine HR.out.mono ?_
      rintro e w1 ⟨rfl, y1⟩
      have hB1 := hB.ext y1
      have d0 := hB1.cell 0
      have d1 := hB1.cell 1
      have d3 := hB1.cell 3
      have d4 := hB1.cell 4
      simp only [List.getElem?_cons_zero, List.getElem?_cons_succ] at d0 d1 d3 d4
      go_wp2_with (first | (go_at_call 86; ((with_reducible refine (M1.out _).mono ?_); rintro e w2 ⟨rfl, rfl⟩)) | (go_at_call 86; ((with_reducible refine (M2.out _).mono ?_); rintro e w2 ⟨rfl, rfl⟩)))
      go_ret
      exact ⟨rfl, xa.trans y1⟩
    · have hv' : decide (2 ≤ ver) = true := dec_t hv
      go_enter Tryz.func87, Tryz.ntmps87
      go_wp2_with fail
      refine HR.out.mono ?_
      rintro e w1 ⟨rfl, y1⟩
      have hB1 := hB.ext y1
      have d0 := hB1.cell 0
      have d1 := hB1.cell 1
      have d3 := hB1.cell 3
      have d4 := hB1.cell 4
      simp only [List.getElem?_cons_zero, List.getElem?_cons_succ] at d0 d1 d3 d4
      go_wp2_with (first | (go_at_call 86; ((with_reducible refine (M1.out _).mono ?_); rintro e w2 ⟨rfl, rfl⟩)) | (go_at_call 86; ((with_reducible refine (M2.out _).mono ?_); rintro e w2 ⟨rfl, rfl⟩)))
      go_ret
      exact ⟨rfl, xa.trans y1⟩
  rw [dec_f ht, Bool.false_or] at hb
  have hte := tag_ne ht
  clear ht
  by_cases h3 : 3 ≤ ver
  · rw [dec_t h3] at hb
    subst hb
    have h3' : decide (3 ≤ ver) = true := dec_t h3
    have hv' : decide (2 ≤ ver) = true := dec_t (by omega)
    clear hg2
    rcases hd with _ | _
    · go_enter Tryz.func87, Tryz.ntmps87
      go_wp2_with fail
      refine HR.out.mono ?_
      rintro e w1 ⟨rfl, y1⟩
      have hB1 := hB.ext y1
      have d0 := hB1.cell 0
      have d1 := hB1.cell 1
      have d3 := hB1.cell 3
      have d4 := hB1.cell 4
      simp only [List.getElem?_cons_zero, List.getElem?_cons_succ] at d0 d1 d3 d4
      go_wp2_with (first | (go_at_call 86; ((with_reducible refine (M1.out _).mono ?_); rintro e w2 ⟨rfl, rfl⟩)) | (go_at_call 86; ((with_reducible refine (M2.out _).mono ?_); rintro e w2 ⟨rfl, rfl⟩)))
      go_ret
      exact ⟨rfl, xa.trans y1⟩
    · go_enter Tryz.func87, Tryz.ntmps87
      go_wp2_with fail
      refine HR.out.mono ?_
      rintro e w1 ⟨rfl, y1⟩
      have hB1 := hB.ext y1
      have d0 := hB1.cell 0
      have d1 := hB1.cell 1
      have d3 := hB1.cell 3
      have d4 := hB1.cell 4
      simp only [List.getElem?_cons_zero, List.getElem?_cons_succ] at d0 d1 d3 d4
      go_wp2_with (first | (go_at_call 86; ((with_reducible refine (M1.out _).mono ?_); rintro e w2 ⟨rfl, rfl⟩)) | (go_at_call 86; ((with_reducible refine (M2.out _).mono ?_); rintro e w2 ⟨rfl, rfl⟩)))
      go_ret
      exact ⟨rfl, xa.trans y1⟩
  · rw [dec_f h3] at hb
    subst hb
    have h3' : decide (3 ≤ ver) = false := dec_f h3
    clear h3
    rcases hg2 with rfl | ⟨rfl, hv⟩
    · go_enter Tryz.func87, Tryz.ntmps87
      go_wp2_with fail
      refine HR.out.mono ?_
      rintro e w1 ⟨rfl, y1⟩
      have hB1 := hB.ext y1
      have d0 := hB1.cell 0
      have d1 := hB1.cell 1
      have d3 := hB1.cell 3
      have d4 := hB1.cell 4
      simp only [List.getElem?_cons_zero, List.getElem?_cons_succ] at d0 d1 d3 d4
      go_wp2_with (first | (go_at_call 86; ((with_reducible refine (M1.out _).mono ?_); rintro e w2 ⟨rfl, rfl⟩)) | (go_at_call 86; ((with_reducible refine (M2.out _).mono ?_); rintro e w2 ⟨rfl, rfl⟩)))
      go_ret
      exact ⟨rfl, xa.trans y1⟩
    · have hv' : decide (2 ≤ ver) = true := dec_t hv
      go_enter Tryz.func87, Tryz.ntmps87
      go_wp2_with fail
      refine HR.out.mono ?_
      rintro e w1 ⟨rfl, y1⟩
      have hB1 := hB.ext y1
      have d0 := hB1.cell 0
      have d1 := hB1.cell 1
      have d3 := hB1.cell 3
      have d4 := hB1.cell 4
      simp only [List.getElem?_cons_zero, List.getElem?_cons_succ] at d0 d1 d3 d4
      go_wp2_with (first | (go_at_call 86; ((with_reducible refine (M1.out _).mono ?_); rintro e w2 ⟨rfl, rfl⟩)) | (go_at_call 86; ((with_reducible refine (M2.out _).mono ?_); rintro e w2 ⟨rfl, rfl⟩)))
      go_ret
      exact ⟨rfl, xa.trans y1⟩
end Go.Proofs.YtiildgoaiookhaaGreat

/- The walk of coracleref07.May. (Printed by wip/tools/strefmay.py.) -/
namespace Go.Proofs.YtiildgoaiookhaaGreat
open Go.RowKit

/-- may a thing stand behind another one -/
def rsB {α : Type} (key : α → Int) (p : Option α) (x : α) : Bool := match p with | none => true | some y => decide (key y < key x)
/-- the reference's look at a row -/
def chkR {α : Type} (key : α → Int) (one : α → Bool) : Option α → List α → Bool
  | _, [] => true
  | p, x :: r => (one x && rsB key p x) && chkR key one (some x) r
theorem chkR_nil {α : Type} (key : α → Int) (one : α → Bool) (p : Option α) : chkR key one p [] = true := by cases p <;> rfl
theorem chkR_cons {α : Type} (key : α → Int) (one : α → Bool) (p : Option α) (x : α) (r : List α) : chkR key one p (x :: r) = ((one x && rsB key p x) && chkR key one (some x) r) := by cases p <;> rfl
def sesOne (x : CV) : Bool := inI x.client 1 8 && (inI x.seq 0 1048576 && (inI x.code 0 99 && inI x.n 0 1048576))
def opsOne (x : OV) : Bool := inI x.set 1 8 && inI x.client 1 8
def nbR (s : KV) (ver : Int) : Bool := inI s.ver 1 3 && (inI s.next 1 1048576 && (inI s.keep 0 8 && (inI s.quota 0 64 && ((decide (s.quota = 0) || decide (3 ≤ ver)) && decide (s.n3 ≤ 16)))))
def kmayR (s : KV) (ver nx : Int) : Nat := if inI ver 1 3 = false then 1 else codeB (((nbR s ver && chkR CV.client sesOne none s.ses) && chkR OV.set opsOne none s.ops) && chkR NV.id (snR ver nx) none s.sns)
theorem prev_at {α : Type} (l : List α) (i : Nat) (h : i < l.length) : (if i + 1 = 0 then none else l[i + 1 - 1]?) = some l[i] := by
  rw [if_neg (by omega), show i + 1 - 1 = i by omega]; exact List.getElem?_eq_getElem h

set_option maxRecDepth 100000 in
set_option maxHeartbeats 6400000 in
theorem ref07_May (s : KV) (ver nx : Int) (w : World) (hs : s.Ok w) (hn1 : s.n1 ≤ 1000000) (hn2 : s.n2 ≤ 1000000) (hn3 : s.n3 ≤ 1000000) (hl : ∀ f ∈ s.sns, f.len ≤ 1000000) (hnx : IntKind.i64.wrap (s.next - 1) = nx) :
    Calls Tryz.prog 52 #[s.val, .int .i64 ver] w fun e w' => e = .returned (.int .i64 (kmayR s ver nx)) ∧ Ext w w' := by
  have ht1 := hs.t1
  have ht2 := hs.t2
  have ht3 := hs.t3
  have hu := fun (f : CV) (hf : f ∈ s.ses) => (hs.t1.ok f hf : CV.Ok f w)
  clear hs
  unfold kmayR nbR
  obtain ⟨ver_, next, keep, quota, A1, n1, cc1, ses, A2, n2, cc2, ops, A3, n3, cc3, sns⟩ := s
  unfold KV.val
  dsimp only at hn1 hn2 hn3 hl hnx ht1 ht2 ht3 hu ⊢
  have hl1 := ht1.len
  have hl2 := ht2.len
  have hl3 := ht3.len
  have Hu := Lib.hid hu
  have Hl := Lib.hid hl
  have Hnx := Lib.hid hnx
  clear hu hl hnx
  have hB0 := Blk.new w 29 [.int .i64 ver_, .int .i64 next, .int .i64 keep, .int .i64 quota, .slice A1 n1 cc1, .slice A2 n2 cc2, .slice A3 n3 cc3]
  have xa : Ext w (w.alloc (.cells #[.int .i64 ver_, .int .i64 next, .int .i64 keep, .int .i64 quota, .slice A1 n1 cc1, .slice A2 n2 cc2, .slice A3 n3 cc3] 29)) := (Ext.refl w).alloc _
  have HW0 := Lib.hid (fun b hb w => ref07_in ver 1 3 b hb w)
  rcases hv : inI ver 1 3 with _ | _
  · have H := Lib.hid (HW0.out _ hv)
    simp only [if_true]
    clear HW0 hv
    go_enter Tryz.func52, Tryz.ntmps52
    go_wp2_with (go_at_call 86; refine (H.out _).mono ?_; rintro e w1 ⟨rfl, rfl⟩)
    go_ret
    exact ⟨rfl, xa⟩
  have H := Lib.hid (HW0.out _ hv)
  rw [if_neg (show ¬ true = false by simp)]
  clear HW0 hv
  go_enter Tryz.func52, Tryz.ntmps52
  go_upto_region 3 with (go_at_call 86; refine (H.out _).mono ?_; rintro e w1 ⟨rfl, rfl⟩)
  generalize (w.alloc (.cells #[.int .i64 ver_, .int .i64 next, .int .i64 keep, .int .i64 quota, .slice A1 n1 cc1, .slice A2 n2 cc2, .slice A3 n3 cc3] 29)) = W0 at *
  clear H
  have N1 := Lib.hid (fun b hb w => ref07_in ver_ 1 3 b hb w)
  have N2 := Lib.hid (fun b hb w => ref07_in next 1 1048576 b hb w)
  have N3 := Lib.hid (fun b hb w => ref07_in keep 0 8 b hb w)
  have N4 := Lib.hid (fun b hb w => ref07_in quota 0 64 b hb w)
  generalize e1 : inI ver_ 1 3 = b1 at *
  generalize e2 : inI next 1 1048576 = b2 at *
  generalize e3 : inI keep 0 8 = b3 at *
  generalize e4 : inI quota 0 64 = b4 at *
  have EE : Hid ((inI ver_ 1 3 && (inI next 1 1048576 && (inI keep 0 8 && (inI quota 0 64 && ((decide (quota = 0) || decide (3 ≤ ver)) && decide (n3 ≤ 16)))))) = (b1 && (b2 && (b3 && (b4 && ((decide (quota = 0) || decide (3 ≤ ver)) && decide (n3 ≤ 16))))))) := Lib.hid (by rw [e1, e2, e3, e4])
  clear e1 e2 e3 e4
  have HC := Lib.hid (fun (w' : World) (h : Ext W0 w') (i : Nat) => (hB0.ext h).cell i)
  have d0 := hB0.cell 0
  have d1 := hB0.cell 1
  have d2 := hB0.cell 2
  have d3 := hB0.cell 3
  have d6 := hB0.cell 6
  simp only [List.getElem?_cons_zero, List.getElem?_cons_succ] at d0 d1 d2 d3 d6
  clear hB0
  go_cut [5] (fun s5 wx => s5 = .bool (b1 && (b2 && (b3 && (b4 && ((decide (quota = 0) || decide (3 ≤ ver)) && decide (n3 ≤ 16)))))) ∧ W0 = wx)
  case first =>
    clear EE HC ht1 ht2 ht3 hl1 hl2 hl3
    rcases b1 with _ | _
    · have M1 := Lib.hid (N1.out _ rfl)
      clear N1 N2 N3 N4
      go_wp2_with (first | (go_at_call 86; ((with_reducible refine (M1.out _).mono ?_); rintro e w1 ⟨rfl, rfl⟩)))
      go_meet
      exact ⟨rfl, rfl⟩
    have M1 := Lib.hid (N1.out _ rfl)
    rcases b2 with _ | _
    · have M2 := Lib.hid (N2.out _ rfl)
      clear N1 N2 N3 N4
      go_wp2_with (first | (go_at_call 86; ((with_reducible refine (M1.out _).mono ?_); rintro e w1 ⟨rfl, rfl⟩)) | (go_at_call 86; ((with_reducible refine (M2.out _).mono ?_); rintro e w1 ⟨rfl, rfl⟩)))
      go_meet
      exact ⟨rfl, rfl⟩
    have M2 := Lib.hid (N2.out _ rfl)
    rcases b3 with _ | _
    · have M3 := Lib.hid (N3.out _ rfl)
      clear N1 N2 N3 N4
      go_wp2_with (first | (go_at_call 86; ((with_reducible refine (M1.out _).mono ?_); rintro e w1 ⟨rfl, rfl⟩)) | (go_at_call 86; ((with_reducible refine (M2.out _).mono ?_); rintro e w1 ⟨rfl, rfl⟩)) | (go_at_call 86; ((with_reducible refine (M3.out _).mono ?_); rintro e w1 ⟨rfl, rfl⟩)))
      go_meet
      exact ⟨rfl, rfl⟩
    have M3 := Lib.hid (N3.out _ rfl)
    rcases b4 with _ | _
    · have M4 := Lib.hid (N4.out _ rfl)
      clear N1 N2 N3 N4
      go_wp2_with (first | (go_at_call 86; ((with_reducible refine (M1.out _).mono ?_); rintro e w1 ⟨rfl, rfl⟩)) | (go_at_call 86; ((with_reducible refine (M2.out _).mono ?_); rintro e w1 ⟨rfl, rfl⟩)) | (go_at_call 86; ((with_reducible refine (M3.out _).mono ?_); rintro e w1 ⟨rfl, rfl⟩)) | (go_at_call 86; ((with_reducible refine (M4.out _).mono ?_); rintro e w1 ⟨rfl, rfl⟩)))
      go_meet
      exact ⟨rfl, rfl⟩
    have M4 := Lib.hid (N4.out _ rfl)
    clear N1 N2 N3 N4
    by_cases hq : quota = 0
    · subst hq
      by_cases h16 : n3 ≤ 16
      · have k := dec_t (show (n3 : Int) ≤ 16 by omega)
        have Hh := Lib.hid h16
        clear h16
        go_wp2_with (first | (go_at_call 86; ((with_reducible refine (M1.out _).mono ?_); rintro e w1 ⟨rfl, rfl⟩)) | (go_at_call 86; ((with_reducible refine (M2.out _).mono ?_); rintro e w1 ⟨rfl, rfl⟩)) | (go_at_call 86; ((with_reducible refine (M3.out _).mono ?_); rintro e w1 ⟨rfl, rfl⟩)) | (go_at_call 86; ((with_reducible refine (M4.out _).mono ?_); rintro e w1 ⟨rfl, rfl⟩)))
        go_meet
        exact ⟨by rw [dec_t Hh.out] <;> rfl, rfl⟩
      · have k := dec_f (show ¬ (n3 : Int) ≤ 16 by omega)
        have Hh := Lib.hid h16
        clear h16
        go_wp2_with (first | (go_at_call 86; ((with_reducible refine (M1.out _).mono ?_); rintro e w1 ⟨rfl, rfl⟩)) | (go_at_call 86; ((with_reducible refine (M2.out _).mono ?_); rintro e w1 ⟨rfl, rfl⟩)) | (go_at_call 86; ((with_reducible refine (M3.out _).mono ?_); rintro e w1 ⟨rfl, rfl⟩)) | (go_at_call 86; ((with_reducible refine (M4.out _).mono ?_); rintro e w1 ⟨rfl, rfl⟩)))
        go_meet
        exact ⟨by rw [dec_f Hh.out] <;> rfl, rfl⟩
    have hq' := beq_f hq
    have Hq := Lib.hid hq
    clear hq
    by_cases h3 : 3 ≤ ver
    · have k3 := dec_t h3
      have H3 := Lib.hid h3
      clear h3
      by_cases h16 : n3 ≤ 16
      · have k := dec_t (show (n3 : Int) ≤ 16 by omega)
        have Hh := Lib.hid h16
        clear h16
        go_wp2_with (first | (go_at_call 86; ((with_reducible refine (M1.out _).mono ?_); rintro e w1 ⟨rfl, rfl⟩)) | (go_at_call 86; ((with_reducible refine (M2.out _).mono ?_); rintro e w1 ⟨rfl, rfl⟩)) | (go_at_call 86; ((with_reducible refine (M3.out _).mono ?_); rintro e w1 ⟨rfl, rfl⟩)) | (go_at_call 86; ((with_reducible refine (M4.out _).mono ?_); rintro e w1 ⟨rfl, rfl⟩)))
        go_meet
        exact ⟨by rw [dec_t Hh.out, dec_f Hq.out, dec_t H3.out] <;> rfl, rfl⟩
      · have k := dec_f (show ¬ (n3 : Int) ≤ 16 by omega)
        have Hh := Lib.hid h16
        clear h16
        go_wp2_with (first | (go_at_call 86; ((with_reducible refine (M1.out _).mono ?_); rintro e w1 ⟨rfl, rfl⟩)) | (go_at_call 86; ((with_reducible refine (M2.out _).mono ?_); rintro e w1 ⟨rfl, rfl⟩)) | (go_at_call 86; ((with_reducible refine (M3.out _).mono ?_); rintro e w1 ⟨rfl, rfl⟩)) | (go_at_call 86; ((with_reducible refine (M4.out _).mono ?_); rintro e w1 ⟨rfl, rfl⟩)))
        go_meet
        exact ⟨by rw [dec_f Hh.out, dec_f Hq.out, dec_t H3.out] <;> rfl, rfl⟩
    · have k3 := dec_f h3
      have H3 := Lib.hid h3
      clear h3
      go_wp2_with (first | (go_at_call 86; ((with_reducible refine (M1.out _).mono ?_); rintro e w1 ⟨rfl, rfl⟩)) | (go_at_call 86; ((with_reducible refine (M2.out _).mono ?_); rintro e w1 ⟨rfl, rfl⟩)) | (go_at_call 86; ((with_reducible refine (M3.out _).mono ?_); rintro e w1 ⟨rfl, rfl⟩)) | (go_at_call 86; ((with_reducible refine (M4.out _).mono ?_); rintro e w1 ⟨rfl, rfl⟩)))
      go_meet
      exact ⟨by rw [dec_f Hq.out, dec_f (show ¬ 3 ≤ ver by have := H3.out; omega)] <;> rfl, rfl⟩
  case rest =>
    obtain ⟨rfl, rfl⟩ := hcut
    clear N1 N2 N3 N4 d0 d1 d2 d3 d6
    generalize (b1 && (b2 && (b3 && (b4 && ((decide (quota = 0) || decide (3 ≤ ver)) && decide (n3 ≤ 16)))))) = nb at *
    have d4 := HC.out _ (Ext.refl W0) 4
    simp only [List.getElem?_cons_zero, List.getElem?_cons_succ] at d4
    go_wp2_with fail
    clear d4
    go_loopw [5, 6] (fun q5 q6 wr => ∃ (j : Nat) (b : Bool), q6 = .int .i64 j ∧ q5 = .bool b ∧ j ≤ n1 ∧ (nb && chkR CV.client sesOne none ses) = (b && chkR CV.client sesOne (if j = 0 then none else ses[j - 1]?) (ses.drop j)) ∧ Ext W0 wr) (fun _ q6 _ => n1 - (intOf q6).toNat)
    case atStart => exact ⟨0, nb, rfl, rfl, by omega, rfl, Ext.refl W0⟩
    case round =>
      obtain ⟨j, b, rfl, rfl, hj, hf, hx⟩ := hrel
      have d4 := HC.out _ hx 4
      simp only [List.getElem?_cons_zero, List.getElem?_cons_succ] at d4
      by_cases hjn : j < n1
      · have hjl : j < ses.length := by omega
        obtain ⟨bb, off, rfl, hlt, hc⟩ := (ht1.ext (xa.trans hx)).at_ hjn
        have hcode := (Hu.out ses[j] (List.getElem_mem _)).u2.wrap
        have HN : Hid ((if j + 1 = 0 then none else ses[j + 1 - 1]?) = some ses[j]) := Lib.hid (prev_at ses j hjl)
        rw [List.drop_eq_getElem_cons hjl, chkR_cons] at hf
        generalize ses[j] = f at *
        have c0 : wr.cell? ⟨bb, off + j * 4, none⟩ = some (.int .i64 f.client) := hc 0 (by omega)
        have c1 : wr.cell? ⟨bb, off + j * 4 + 1, none⟩ = some (.int .i64 f.seq) := hc 1 (by omega)
        have c2 : wr.cell? ⟨bb, off + j * 4 + 2, none⟩ = some (.int .i64 f.code) := hc 2 (by omega)
        have c3 : wr.cell? ⟨bb, off + j * 4 + 3, none⟩ = some (.int .i64 f.n) := hc 3 (by omega)
        have hj0 : (0 : Int) ≤ j := by omega
        have hj1 : (j : Int) < n1 := by omega
        clear hc
        have HF := Lib.hid hf
        clear hf
        go_upto_region 8 with fail
        have hBx := Blk.new wr 63 [.int .i64 f.client, .int .i64 f.seq, .int .i64 f.code, .int .i64 f.n]
        have xw : Ext wr (wr.alloc (.cells #[.int .i64 f.client, .int .i64 f.seq, .int .i64 f.code, .int .i64 f.n] 63)) := (Ext.refl wr).alloc _
        have d4' := HC.out _ (hx.trans xw) 4
        clear c0 c1 c2 c3 d4
        generalize (wr.alloc (.cells #[.int .i64 f.client, .int .i64 f.seq, .int .i64 f.code, .int .i64 f.n] 63)) = W1 at *
        have g0 := hBx.cell 0
        have g1 := hBx.cell 1
        have g2 := hBx.cell 2
        have g3 := hBx.cell 3
        simp only [List.getElem?_cons_zero, List.getElem?_cons_succ] at d4' g0 g1 g2 g3
        have N1 := Lib.hid (fun b hb w => ref07_in f.client 1 8 b hb w)
        have N2 := Lib.hid (fun b hb w => ref07_in f.seq 0 1048576 b hb w)
        have N3 := Lib.hid (fun b hb w => ref07_in f.code 0 99 b hb w)
        have N4 := Lib.hid (fun b hb w => ref07_in f.n 0 1048576 b hb w)
        go_cut [5] (fun s5 wx => s5 = .bool (b && sesOne f) ∧ W1 = wx)
        case first =>
          clear HF HN HC hlt
          have HSO : Hid (sesOne f = (inI f.client 1 8 && (inI f.seq 0 1048576 && (inI f.code 0 99 && inI f.n 0 1048576)))) := Lib.hid rfl
          generalize inI f.client 1 8 = b1 at *
          generalize inI f.seq 0 1048576 = b2 at *
          generalize inI f.code 0 99 = b3 at *
          generalize inI f.n 0 1048576 = b4 at *
          rcases b with _ | _
          · clear N1 N2 N3 N4
            go_wp2_with fail
            go_meet
            exact ⟨rfl, rfl⟩
          rcases b1 with _ | _
          · have M1 := Lib.hid (N1.out _ rfl)
            clear N1 N2 N3 N4
            go_wp2_with (first | (go_at_call 86; ((with_reducible refine (M1.out _).mono ?_); rintro e w1 ⟨rfl, rfl⟩)))
            go_meet
            exact ⟨by rw [HSO.out] <;> rfl, rfl⟩
          have M1 := Lib.hid (N1.out _ rfl)
          rcases b2 with _ | _
          · have M2 := Lib.hid (N2.out _ rfl)
            clear N1 N2 N3 N4
            go_wp2_with (first | (go_at_call 86; ((with_reducible refine (M1.out _).mono ?_); rintro e w1 ⟨rfl, rfl⟩)) | (go_at_call 86; ((with_reducible refine (M2.out _).mono ?_); rintro e w1 ⟨rfl, rfl⟩)))
            go_meet
            exact ⟨by rw [HSO.out] <;> rfl, rfl⟩
          have M2 := Lib.hid (N2.out _ rfl)
          rcases b3 with _ | _
          · have M3 := Lib.hid (N3.out _ rfl)
            clear N1 N2 N3 N4
            go_wp2_with (first | (go_at_call 86; ((with_reducible refine (M1.out _).mono ?_); rintro e w1 ⟨rfl, rfl⟩)) | (go_at_call 86; ((with_reducible refine (M2.out _).mono ?_); rintro e w1 ⟨rfl, rfl⟩)) | (go_at_call 86; ((with_reducible refine (M3.out _).mono ?_); rintro e w1 ⟨rfl, rfl⟩)))
            go_meet
            exact ⟨by rw [HSO.out] <;> rfl, rfl⟩
          have M3 := Lib.hid (N3.out _ rfl)
          have M4 := Lib.hid (N4.out _ rfl)
          clear N1 N2 N3 N4
          go_wp2_with (first | (go_at_call 86; ((with_reducible refine (M1.out _).mono ?_); rintro e w1 ⟨rfl, rfl⟩)) | (go_at_call 86; ((with_reducible refine (M2.out _).mono ?_); rintro e w1 ⟨rfl, rfl⟩)) | (go_at_call 86; ((with_reducible refine (M3.out _).mono ?_); rintro e w1 ⟨rfl, rfl⟩)) | (go_at_call 86; ((with_reducible refine (M4.out _).mono ?_); rintro e w1 ⟨rfl, rfl⟩)))
          go_meet
          exact ⟨by rw [HSO.out] <;> rfl, rfl⟩
        case rest =>
          obtain ⟨rfl, rfl⟩ := hcut
          clear N1 N2 N3 N4 g1 g2 g3 hcode
          have HF2 : Hid ((nb && chkR CV.client sesOne none ses) = ((b && sesOne f) && (rsB CV.client (if j = 0 then none else ses[j - 1]?) f && chkR CV.client sesOne (some f) (ses.drop (j + 1))))) := Lib.hid (by rw [HF.out, Bool.and_assoc, Bool.and_assoc])
          clear HF
          generalize (b && sesOne f) = b1 at *
          rcases b1 with _ | _
          · go_wp2_with fail
            go_quiet (fail)
            go_wp2_with fail
            go_roundw
            case rel => exact ⟨j + 1, false, val_int (by omega), rfl, by omega, by rw [HF2.out, Bool.false_and, Bool.false_and], (hx.trans xw).drewN _⟩
            case measure => simp [intOf]; omega
          rcases Nat.eq_zero_or_pos j with rfl | hjp
          · go_wp2_with fail
            go_quiet (fail)
            go_wp2_with fail
            go_roundw
            case rel => exact ⟨0 + 1, true, val_int (by omega), rfl, by omega, by rw [HF2.out, HN.out] <;> rfl, (hx.trans xw).drewN _⟩
            case measure => simp [intOf]; omega
          obtain ⟨i, rfl⟩ : ∃ i, j = i + 1 := ⟨j - 1, by omega⟩
          have hil : i < ses.length := by omega
          obtain ⟨b', off', hA', hlt', hc'⟩ := (ht1.ext (xa.trans (hx.trans xw))).at_ (show i < n1 by omega)
          injection hA' with hA'
          injection hA' with hb' ho'
          subst hb' ho'
          have hpv := prev_at ses i hil
          generalize ses[i] = y at *
          have p0 : W1.cell? ⟨bb, off + i * 4, none⟩ = some (.int .i64 y.client) := hc' 0 (by omega)
          have HF3 : Hid ((nb && chkR CV.client sesOne none ses) = (decide (y.client < f.client) && chkR CV.client sesOne (some f) (ses.drop (i + 1 + 1)))) := Lib.hid (by rw [HF2.out, hpv, Bool.true_and]; rfl)
          have hw1 : IntKind.i64.wrap (i : Int) = i := IntWalk.i64_in _ (by omega)
          have hw2 : IntKind.i64.wrap ((i : Int) + 1) = (i : Int) + 1 := IntWalk.i64_in _ (by omega)
          have hi0 : (0 : Int) ≤ i := by omega
          have hi1 : (i : Int) < n1 := by omega
          have hne : ((i : Int) + 1 == 0) = false := beq_f (by omega)
          clear hpv hc' HF2
          generalize hdc : decide (y.client < f.client) = dc at *
          go_wp2_with fail
          go_quiet (fail)
          go_wp2_with fail
          go_roundw
          case rel => exact ⟨i + 1 + 1, dc, val_int (by omega), by first | rfl | rw [hdc], by omega, by rw [HF3.out, HN.out], (hx.trans xw).drewN _⟩
          case measure => simp [intOf]; omega
      · obtain rfl : n1 = j := by omega
        rw [List.drop_of_length_le (by omega), chkR_nil, Bool.and_true] at hf
        have HFA := Lib.hid hf
        clear hf Hu
        obtain ⟨wa, rfl⟩ : ∃ wa : World, wa = wr := ⟨_, rfl⟩
        have hxa := hx
        clear hx hjn hj
        have d5 := HC.out _ hxa 5
        simp only [List.getElem?_cons_zero, List.getElem?_cons_succ] at d5
        go_wp2_with fail
        clear d4 d5
        go_loopw [5, 8] (fun q5 q8 wr => ∃ (j : Nat) (b' : Bool), q8 = .int .i64 j ∧ q5 = .bool b' ∧ j ≤ n2 ∧ (b && chkR OV.set opsOne none ops) = (b' && chkR OV.set opsOne (if j = 0 then none else ops[j - 1]?) (ops.drop j)) ∧ Ext W0 wr) (fun _ q8 _ => n2 - (intOf q8).toNat)
        case atStart => exact ⟨0, b, rfl, rfl, by omega, rfl, hxa⟩
        case round =>
          clear hxa
          obtain ⟨j, b', rfl, rfl, hj, hf, hx⟩ := hrel
          have d5 := HC.out _ hx 5
          simp only [List.getElem?_cons_zero, List.getElem?_cons_succ] at d5
          by_cases hjn : j < n2
          · have hjl : j < ops.length := by omega
            obtain ⟨bb, off, rfl, hlt, hc⟩ := (ht2.ext (xa.trans hx)).at_ hjn
            have HN : Hid ((if j + 1 = 0 then none else ops[j + 1 - 1]?) = some ops[j]) := Lib.hid (prev_at ops j hjl)
            rw [List.drop_eq_getElem_cons hjl, chkR_cons] at hf
            generalize ops[j] = f at *
            have c0 : wr.cell? ⟨bb, off + j * 2, none⟩ = some (.int .i64 f.set) := hc 0 (by omega)
            have c1 : wr.cell? ⟨bb, off + j * 2 + 1, none⟩ = some (.int .i64 f.client) := hc 1 (by omega)
            have hj0 : (0 : Int) ≤ j := by omega
            have hj1 : (j : Int) < n2 := by omega
            clear hc
            have HF := Lib.hid hf
            clear hf
            go_upto_region 14 with fail
            have hBx := Blk.new wr 65 [.int .i64 f.set, .int .i64 f.client]
            have xw : Ext wr (wr.alloc (.cells #[.int .i64 f.set, .int .i64 f.client] 65)) := (Ext.refl wr).alloc _
            have d5' := HC.out _ (hx.trans xw) 5
            clear c0 c1 d5
            generalize (wr.alloc (.cells #[.int .i64 f.set, .int .i64 f.client] 65)) = W1 at *
            have g0 := hBx.cell 0
            have g1 := hBx.cell 1
            simp only [List.getElem?_cons_zero, List.getElem?_cons_succ] at d5' g0 g1
            have N1 := Lib.hid (fun b hb w => ref07_in' f.set 1 8 b hb w)
            have N2 := Lib.hid (fun b hb w => ref07_in' f.client 1 8 b hb w)
            have HSO : Hid (opsOne f = (inI f.set 1 8 && inI f.client 1 8)) := Lib.hid rfl
            generalize inI f.set 1 8 = b1 at *
            generalize inI f.client 1 8 = b2 at *
            rcases b' with _ | _
            · clear N1 N2
              go_quiet (fail)
              go_wp2_with fail
              go_roundw
              case rel => exact ⟨j + 1, false, val_int (by omega), rfl, by omega, by rw [HF.out, Bool.false_and, Bool.false_and], (hx.trans xw).drewN _⟩
              case measure => simp [intOf]; omega
            rcases b1 with _ | _
            · have M1 := Lib.hid (fun w => N1.out _ rfl w)
              clear N1 N2
              go_quiet ((first | (go_at_call 86; exact Calls.quiet_of_same (M1.out _))))
              go_wp2_with fail
              go_roundw
              case rel => exact ⟨j + 1, false, val_int (by omega), rfl, by omega, by rw [HF.out, HSO.out] <;> rfl, (hx.trans xw).drewN _⟩
              case measure => simp [intOf]; omega
            have M1 := Lib.hid (fun w => N1.out _ rfl w)
            rcases b2 with _ | _
            · have M2 := Lib.hid (fun w => N2.out _ rfl w)
              clear N1 N2
              go_quiet ((first | (go_at_call_of 86 (Value.int .i64 f.set); exact Calls.quiet_of_same (M1.out _)) | (go_at_call_of 86 (Value.int .i64 f.client); exact Calls.quiet_of_same (M2.out _))))
              go_wp2_with fail
              go_roundw
              case rel => exact ⟨j + 1, false, val_int (by omega), rfl, by omega, by rw [HF.out, HSO.out] <;> rfl, (hx.trans xw).drewN _⟩
              case measure => simp [intOf]; omega
            have M2 := Lib.hid (fun w => N2.out _ rfl w)
            clear N1 N2
            rcases Nat.eq_zero_or_pos j with rfl | hjp
            · go_quiet ((first | (go_at_call_of 86 (Value.int .i64 f.set); exact Calls.quiet_of_same (M1.out _)) | (go_at_call_of 86 (Value.int .i64 f.client); exact Calls.quiet_of_same (M2.out _))))
              go_wp2_with fail
              go_roundw
              case rel => exact ⟨0 + 1, true, val_int (by omega), rfl, by omega, by rw [HF.out, HN.out, HSO.out] <;> rfl, (hx.trans xw).drewN _⟩
              case measure => simp [intOf]; omega
            obtain ⟨i, rfl⟩ : ∃ i, j = i + 1 := ⟨j - 1, by omega⟩
            have hil : i < ops.length := by omega
            obtain ⟨bq, oq, hA', hlt', hc'⟩ := (ht2.ext (xa.trans (hx.trans xw))).at_ (show i < n2 by omega)
            injection hA' with hA'
            injection hA' with hb' ho'
            subst hb' ho'
            have hpv := prev_at ops i hil
            generalize ops[i] = y at *
            have p0 : W1.cell? ⟨bb, off + i * 2, none⟩ = some (.int .i64 y.set) := hc' 0 (by omega)
            have HF3 : Hid ((b && chkR OV.set opsOne none ops) = (decide (y.set < f.set) && chkR OV.set opsOne (some f) (ops.drop (i + 1 + 1)))) := Lib.hid (by rw [HF.out, hpv, HSO.out]; rfl)
            have hw1 : IntKind.i64.wrap (i : Int) = i := IntWalk.i64_in _ (by omega)
            have hw2 : IntKind.i64.wrap ((i : Int) + 1) = (i : Int) + 1 := IntWalk.i64_in _ (by omega)
            have hi0 : (0 : Int) ≤ i := by omega
            have hi1 : (i : Int) < n2 := by omega
            have hne : ((i : Int) + 1 == 0) = false := beq_f (by omega)
            clear hpv hc' HF
            generalize hdc : decide (y.set < f.set) = dc at *
            go_quiet ((first | (go_at_call_of 86 (Value.int .i64 f.set); exact Calls.quiet_of_same (M1.out _)) | (go_at_call_of 86 (Value.int .i64 f.client); exact Calls.quiet_of_same (M2.out _))))
            go_wp2_with fail
            go_roundw
            case rel => exact ⟨i + 1 + 1, dc, val_int (by omega), by first | rfl | rw [hdc], by omega, by rw [HF3.out, HN.out], (hx.trans xw).drewN _⟩
            case measure => simp [intOf]; omega
          · obtain rfl : n2 = j := by omega
            rw [List.drop_of_length_le (by omega), chkR_nil, Bool.and_true] at hf
            have HFB := Lib.hid hf
            clear hf
            obtain ⟨wb, rfl⟩ : ∃ wb : World, wb = wr := ⟨_, rfl⟩
            have hxa := hx
            clear hx hjn hj
            have d6 := HC.out _ hxa 6
            simp only [List.getElem?_cons_zero, List.getElem?_cons_succ] at d6
            go_wp2_with fail
            clear d5 d6
            go_loopw [5, 10] (fun q5 q10 wr => ∃ (j : Nat) (b2 : Bool), q10 = .int .i64 j ∧ q5 = .bool b2 ∧ j ≤ n3 ∧ (b' && chkR NV.id (snR ver nx) none sns) = (b2 && chkR NV.id (snR ver nx) (if j = 0 then none else sns[j - 1]?) (sns.drop j)) ∧ Ext W0 wr) (fun _ q10 _ => n3 - (intOf q10).toNat)
            case atStart => exact ⟨0, b', rfl, rfl, by omega, rfl, hxa⟩
            case round =>
              clear hxa
              obtain ⟨j, b2, rfl, rfl, hj, hf, hx⟩ := hrel
              have d6 := HC.out _ hx 6
              have d1 := HC.out _ hx 1
              simp only [List.getElem?_cons_zero, List.getElem?_cons_succ] at d6 d1
              by_cases hjn : j < n3
              · have hjl : j < sns.length := by omega
                obtain ⟨bb, off, rfl, hlt, hc⟩ := (ht3.ext (xa.trans hx)).at_ hjn
                have hok : NV.Ok sns[j] wr := (ht3.ext (xa.trans hx)).ok sns[j] (List.getElem_mem _)
                have hlf := Hl.out sns[j] (List.getElem_mem _)
                have HN : Hid ((if j + 1 = 0 then none else sns[j + 1 - 1]?) = some sns[j]) := Lib.hid (prev_at sns j hjl)
                rw [List.drop_eq_getElem_cons hjl, chkR_cons] at hf
                generalize sns[j] = f at *
                have c0 : wr.cell? ⟨bb, off + j * 5, none⟩ = some (.int .i64 f.id) := hc 0 (by omega)
                have c1 : wr.cell? ⟨bb, off + j * 5 + 1, none⟩ = some (.int .i64 f.set) := hc 1 (by omega)
                have c2 : wr.cell? ⟨bb, off + j * 5 + 2, none⟩ = some (.slice f.A f.len f.cap) := hc 2 (by omega)
                have c3 : wr.cell? ⟨bb, off + j * 5 + 3, none⟩ = some (.bool f.held) := hc 3 (by omega)
                have c4 : wr.cell? ⟨bb, off + j * 5 + 4, none⟩ = some (.string f.tag) := hc 4 (by omega)
                have HS := Lib.hid (fun (w' : World) (h : Ext wr w') => ref07_snap f next nx ver _ rfl w' (hok.ext h) hlf Hnx.out)
                have hj0 : (0 : Int) ≤ j := by omega
                have hj1 : (j : Int) < n3 := by omega
                clear hc hok
                have HF := Lib.hid hf
                clear hf
                generalize snR ver nx f = sb at *
                go_wp2_with fail
                go_region_held3 (fun w' => w'.cell? ⟨w.heap.size, 6, none⟩ = some (.slice (some ⟨bb, off, none⟩) n3 cc3) ∧ w'.cell? ⟨w.heap.size, 1, none⟩ = some (.int .i64 next) ∧ w'.cell? ⟨bb, off + j * 5, none⟩ = some (.int .i64 f.id) ∧ w'.cell? ⟨bb, off + j * 5 + 1, none⟩ = some (.int .i64 f.set) ∧ w'.cell? ⟨bb, off + j * 5 + 2, none⟩ = some (.slice f.A f.len f.cap) ∧ w'.cell? ⟨bb, off + j * 5 + 3, none⟩ = some (.bool f.held) ∧ w'.cell? ⟨bb, off + j * 5 + 4, none⟩ = some (.string f.tag))
                  (first | go_keep | (exact ⟨y2.cell d6, y2.cell d1, y2.cell c0, y2.cell c1, y2.cell c2, y2.cell c3, y2.cell c4⟩))
                  (first | (go_at_call 87; refine (HS.out _ (Ext.refl wr).drew).mono ?_; rintro e w2 ⟨rfl, y2⟩))
                have x2 : Ext wr w2 := (Ext.refl wr).drew.trans y2
                have d6' := x2.cell d6
                have k0 := x2.cell c0
                clear d6 d1 c0 c1 c2 c3 c4 HS y2
                rcases b2 with _ | _
                · go_wp2_with fail
                  go_quiet (fail)
                  go_wp2_with fail
                  go_roundw
                  case rel => exact ⟨j + 1, false, val_int (by omega), rfl, by omega, by rw [HF.out, Bool.false_and, Bool.false_and], (hx.trans x2).drewN _⟩
                  case measure => simp [intOf]; omega
                rcases sb with _ | _
                · go_wp2_with fail
                  go_quiet (fail)
                  go_wp2_with fail
                  go_roundw
                  case rel => exact ⟨j + 1, false, val_int (by omega), rfl, by omega, by rw [HF.out] <;> rfl, (hx.trans x2).drewN _⟩
                  case measure => simp [intOf]; omega
                rcases Nat.eq_zero_or_pos j with rfl | hjp
                · go_wp2_with fail
                  go_quiet (fail)
                  go_wp2_with fail
                  go_roundw
                  case rel => exact ⟨0 + 1, true, val_int (by omega), rfl, by omega, by rw [HF.out, HN.out] <;> rfl, (hx.trans x2).drewN _⟩
                  case measure => simp [intOf]; omega
                obtain ⟨i, rfl⟩ : ∃ i, j = i + 1 := ⟨j - 1, by omega⟩
                have hil : i < sns.length := by omega
                obtain ⟨bq, oq, hA', hlt', hc'⟩ := (ht3.ext (xa.trans (hx.trans x2))).at_ (show i < n3 by omega)
                injection hA' with hA'
                injection hA' with hb' ho'
                subst hb' ho'
                have hpv := prev_at sns i hil
                generalize sns[i] = y at *
                have p0 : w2.cell? ⟨bb, off + i * 5, none⟩ = some (.int .i64 y.id) := hc' 0 (by omega)
                have HF3 : Hid ((b' && chkR NV.id (snR ver nx) none sns) = (decide (y.id < f.id) && chkR NV.id (snR ver nx) (some f) (sns.drop (i + 1 + 1)))) := Lib.hid (by rw [HF.out, hpv]; rfl)
                have hw1 : IntKind.i64.wrap (i : Int) = i := IntWalk.i64_in _ (by omega)
                have hw2 : IntKind.i64.wrap ((i : Int) + 1) = (i : Int) + 1 := IntWalk.i64_in _ (by omega)
                have hi0 : (0 : Int) ≤ i := by omega
                have hi1 : (i : Int) < n3 := by omega
                have hii : (i : Int) + 1 < n3 := by omega
                have hne : ((i : Int) + 1 == 0) = false := beq_f (by omega)
                clear hpv hc' HF
                generalize hdc : decide (y.id < f.id) = dc at *
                go_wp2_with fail
                go_quiet (fail)
                go_wp2_with fail
                go_roundw
                case rel => exact ⟨i + 1 + 1, dc, val_int (by omega), by first | rfl | rw [hdc], by omega, by rw [HF3.out, HN.out], (hx.trans x2).drewN _⟩
                case measure => simp [intOf]; omega
              · obtain rfl : n3 = j := by omega
                rw [List.drop_of_length_le (by omega), chkR_nil, Bool.and_true] at hf
                have HFC := Lib.hid hf
                clear hf
                rcases b2 with _ | _
                · go_wp2
                  go_ret
                  exact ⟨by rw [EE.out, HFA.out, HFB.out, HFC.out] <;> rfl, xa.trans hx⟩
                · go_wp2
                  go_ret
                  exact ⟨by rw [EE.out, HFA.out, HFB.out, HFC.out] <;> rfl, xa.trans hx⟩
end Go.Proofs.YtiildgoaiookhaaGreat

/- The reference's May of a catalogue says what state.May says. -/
namespace Go.Proofs.YtiildgoaiookhaaGreat
open Go.RowKit

theorem chk_ris {α : Type} {key : α → Int} {one : α → Bool} {p : α → Bool} {m : Int} (h1 : ∀ x, one x = (inI (key x) 1 m && p x)) : ∀ (l : List α) (q : Option α) (a : Int), 0 ≤ a → (match q with | none => a = 0 | some y => a = key y) → chkR key one q l = (risB key m a l && l.all p)
  | [], q, a, _, _ => by rw [chkR_nil]; rfl
  | x :: r, q, a, ha, hq => by
    rw [chkR_cons, risB_cons, List.all_cons, h1]
    have hr : rsB key q x = decide (a < key x) ∨ (q = none ∧ a = 0) := by
      rcases q with _ | y
      · exact .inr ⟨rfl, hq⟩
      · left; unfold rsB; rw [show a = key y from hq]
    by_cases hin : inI (key x) 1 m = true
    · obtain ⟨k1, k2⟩ := inI_iff.1 hin
      have ih := chk_ris h1 r (some x) (key x) (by omega) rfl
      rw [ih, hin, Bool.true_and]
      by_cases hlt : a < key x
      · have e1 : inI (key x) (a + 1) m = true := inI_t (by omega) k2
        have e2 : rsB key q x = true := by
          rcases hr with hr | ⟨rfl, _⟩
          · rw [hr, dec_t hlt]
          · rfl
        rw [e1, e2, Bool.and_true, Bool.true_and]
        rcases p x with _ | _
        · simp
        · simp
      · have e1 : inI (key x) (a + 1) m = false := inI_f (.inl (by omega))
        have e2 : rsB key q x = false := by
          rcases hr with hr | ⟨rfl, h0⟩
          · rw [hr, dec_f hlt]
          · omega
        rw [e1, e2]
        simp
    · have hin' : inI (key x) 1 m = false := by simpa using hin
      have e1 : inI (key x) (a + 1) m = false := by
        refine inI_f ?_
        by_cases h2 : key x ≤ m
        · left
          by_cases h3 : 1 ≤ key x
          · exact absurd (inI_t h3 h2) hin
          · omega
        · right; omega
      rw [hin', e1]
      simp
theorem chk_ses (l : List CV) : chkR CV.client sesOne none l = sesOk l :=
  chk_ris (p := sesB) (m := 8) (fun _ => rfl) l none 0 (Int.le_refl 0) rfl
theorem chk_ops (l : List OV) : chkR OV.set opsOne none l = opsOk l :=
  chk_ris (p := opnB) (m := 8) (fun _ => rfl) l none 0 (Int.le_refl 0) rfl
theorem size_nil (s : ByteArray) : (s.size : Int) ≤ 0 ↔ s = ⟨#[]⟩ := by
  constructor
  · intro h
    apply ByteArray.ext
    have : s.data.size = 0 := by have h2 : s.size = 0 := by omega
                                 exact h2
    exact Array.eq_empty_of_size_eq_zero this
  · rintro rfl; decide
theorem snR_snB (ver nx : Int) (f : NV) : snR ver nx f = (inI f.id 1 nx && snB ver (tagLim ver) f) := by
  have key : (decide (f.tag.size ≤ 16) && (decide (f.tag = ⟨#[]⟩) || decide (3 ≤ ver))) = decide ((f.tag.size : Int) ≤ tagLim ver) := by
    unfold tagLim
    by_cases h3 : ver < 3
    · rw [if_pos h3, dec_f (show ¬ 3 ≤ ver by omega), Bool.or_false]
      by_cases ht : f.tag = ⟨#[]⟩
      · rw [dec_t ht, dec_t ((size_nil _).2 ht), dec_t (by rw [ht]; decide)]; rfl
      · rw [dec_f ht, dec_f (fun h => ht ((size_nil _).1 h)), Bool.and_false]
    · rw [if_neg h3, dec_t (show 3 ≤ ver by omega), Bool.or_true, Bool.and_true]
      by_cases h : f.tag.size ≤ 16
      · rw [dec_t h, dec_t (by omega)]
      · rw [dec_f h, dec_f (by omega)]
  unfold snR snB
  rw [key]
  rcases rowChB f.ch with _ | _ <;> simp
theorem chk_sns (ver next : Int) (l : List NV) : chkR NV.id (snR ver (next - 1)) none l = (risB NV.id (next - 1) 0 l && l.all (snB ver (tagLim ver))) :=
  chk_ris (p := snB ver (tagLim ver)) (m := next - 1) (fun x => snR_snB ver (next - 1) x) l none 0 (Int.le_refl 0) rfl
theorem quota_eq (q ver : Int) : (inI q 0 64 && (decide (q = 0) || decide (3 ≤ ver))) = inI q 0 (quotaLim ver) := by
  unfold quotaLim
  by_cases h3 : ver < 3
  · rw [if_pos h3, dec_f (show ¬ 3 ≤ ver by omega), Bool.or_false]
    by_cases h : q = 0
    · subst h; rfl
    · rw [dec_f h, Bool.and_false]
      symm
      exact inI_f (by omega)
  · rw [if_neg h3, dec_t (show 3 ≤ ver by omega), Bool.or_true, Bool.and_true]
theorem kmayR_eq (s : KV) (ver nx : Int) (hl : s.sns.length = s.n3) (hnx : IntKind.i64.wrap (s.next - 1) = nx) : kmayR s ver nx = kmay s ver := by
  unfold kmayR kmay
  congr 1
  congr 1
  rw [chk_ses, chk_ops]
  have hn : nbR s ver = (numB s ver && decide (s.n3 ≤ 16)) := by
    unfold nbR numB
    rw [← quota_eq]
    simp [Bool.and_assoc]
  rw [hn]
  by_cases hb : numB s ver = true
  · rw [hb, Bool.true_and, Bool.true_and]
    obtain ⟨_, h2, _, _⟩ := numB_iff.1 hb
    have : nx = s.next - 1 := by rw [← hnx]; exact IntWalk.i64_in _ (by omega)
    rw [this, chk_sns]
    unfold snsB
    rw [hl]
    rcases decide (s.n3 ≤ 16) with _ | _
    · simp
    · simp
  · have : numB s ver = false := by simpa using hb
    rw [this]
    simp
end Go.Proofs.YtiildgoaiookhaaGreat
