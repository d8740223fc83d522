/- Words and walks that the last text of this claim stands on: ImQ. No condition. -/
import Derived.Test.YtiildgoaiookhaaB21
import Derived.Test.YtiildgoaiookhaaB09
/- What the laws of layer 10 begin with. -/
namespace Go.Proofs.Ytiildgoaiookhaa
open Go.RowKit

theorem Blk.far7 {w : World} {g g' : Nat} {t : TypeId} {l : List Value} (h : Blk w g t l) (hg : g ≠ g') (a b c d e f v : Value) : Blk (put7 w g' a b c d e f v) g t l :=
  ((((((h.far (p := ⟨g', 0, none⟩) hg a).far (p := ⟨g', 1, none⟩) hg b).far (p := ⟨g', 2, none⟩) hg c).far (p := ⟨g', 3, none⟩) hg d).far (p := ⟨g', 4, none⟩) hg e).far (p := ⟨g', 5, none⟩) hg f).far (p := ⟨g', 6, none⟩) hg v
theorem put7_size (w : World) (g : Nat) (a b c d e f v : Value) : (put7 w g a b c d e f v).heap.size = w.heap.size := by unfold put7; simp
/-- a world in which a block of two cells was stored anew -/
def put2 (w : World) (g : Nat) (a b : Value) : World := (w.setCell ⟨g, 0, none⟩ a).setCell ⟨g, 1, none⟩ b
theorem st2_def (w : World) (g : Nat) (a b : Value) : (w.setCell ⟨g, 0, none⟩ a).setCell ⟨g, 1, none⟩ b = put2 w g a b := rfl
theorem put2_size (w : World) (g : Nat) (a b : Value) : (put2 w g a b).heap.size = w.heap.size := by unfold put2; simp
theorem Blk.st2 {w : World} {g : Nat} {t : TypeId} {a' b' : Value} (h : Blk w g t [a', b']) (a b : Value) : Blk (put2 w g a b) g t [a, b] := by
  have := (h.set_ 0 a).set_ 1 b
  unfold put2
  simpa using this
theorem Blk.far2 {w : World} {g g' : Nat} {t : TypeId} {l : List Value} (h : Blk w g t l) (hg : g ≠ g') (a b : Value) : Blk (put2 w g' a b) g t l :=
  (h.far (p := ⟨g', 0, none⟩) hg a).far (p := ⟨g', 1, none⟩) hg b
theorem Ext.st2 {w0 w : World} {g : Nat} (h : Ext w0 w) (hg : w0.heap.size ≤ g) (a b : Value) : Ext w0 (put2 w g a b) := (h.setCell (p := ⟨g, 0, none⟩) hg a).setCell (p := ⟨g, 1, none⟩) hg b
theorem own_st2 {w : World} {base : Nat} {t : TypeId} {size n : Nat} {u : Value} {xs : List Value} (h : w.ownsRow base t size u n xs) {g : Nat} (hg : g < base) (a b : Value) : (put2 w g a b).ownsRow base t size u n xs :=
  own_set (own_set h (p := ⟨g, 0, none⟩) hg a) (p := ⟨g, 1, none⟩) hg b

/-- a catalogue that was cut, in its box -/
structure LK (W : World) (B g : Nat) (s t : KV) : Prop where
  blk : Blk W g 26 [.int .i64 t.ver, .int .i64 t.next, .int .i64 t.keep, .int .i64 t.quota, .slice t.A1 t.n1 t.c1, .slice t.A2 t.n2 t.c2, .slice t.A3 t.n3 t.c3]
  like : ∃ A c, t = lessK s A c
  own : W.ownsRow B 33 5 (.slice t.A3 t.n3 t.c3) t.n3 (thingsOf t.sns)
  lt : g < B
theorem LK.ok {w0 W : World} {B g : Nat} {s t : KV} (h : LK W B g s t) (hs : s.Ok w0) (he : Ext w0 W) : t.Ok W := by
  obtain ⟨A, c, rfl⟩ := h.like
  exact lessK_ok hs he h.own
theorem LK.few {W : World} {B g : Nat} {s t : KV} (h : LK W B g s t) : t.Few := by
  obtain ⟨A, c, rfl⟩ := h.like
  exact lessK_few s A c
theorem LK.n20 {W : World} {B g : Nat} {s t : KV} (h : LK W B g s t) : t.n1 ≤ 20 ∧ t.n2 ≤ 20 ∧ t.n3 ≤ 20 := by
  obtain ⟨A, c, rfl⟩ := h.like
  refine ⟨?_, ?_, ?_⟩ <;> dsimp only [lessK] <;> omega
theorem LK.ch {W : World} {B g : Nat} {s t : KV} (h : LK W B g s t) : ∀ f ∈ t.sns, f.len ≤ 12 := by
  obtain ⟨A, c, rfl⟩ := h.like
  intro f hf
  obtain ⟨k, _, rfl⟩ := List.mem_map.1 hf
  exact cutN_len k
theorem LK.ext {W W' : World} {B g : Nat} {s t : KV} (h : LK W B g s t) (he : Ext W W') : LK W' B g s t := ⟨h.blk.ext he, h.like, own_ext h.own he, h.lt⟩
theorem LK.far7 {W : World} {B g g' : Nat} {s t : KV} (h : LK W B g s t) (hg : g ≠ g') (hB : g' < B) (a b c d e f v : Value) : LK (put7 W g' a b c d e f v) B g s t := ⟨h.blk.far7 hg a b c d e f v, h.like, own_st7 h.own hB a b c d e f v, h.lt⟩
theorem LK.far2 {W : World} {B g g' : Nat} {s t : KV} (h : LK W B g s t) (hg : g ≠ g') (hB : g' < B) (a b : Value) : LK (put2 W g' a b) B g s t := ⟨h.blk.far2 hg a b, h.like, own_st2 h.own hB a b, h.lt⟩
theorem LK.start {W : World} {B g : Nat} {s : KV} {A : Option Addr} {c : Nat} {a' b' c' d' e' f' v' : Value} (hb : Blk W g 26 [a', b', c', d', e', f', v']) (ho : W.ownsRow B 33 5 (.slice A (min 20 s.n3) c) (min 20 s.n3) (thingsOf (cutSn s.sns))) (hg : g < B) :
    LK (put7 W g (.int .i64 (lessK s A c).ver) (.int .i64 (lessK s A c).next) (.int .i64 (lessK s A c).keep) (.int .i64 (lessK s A c).quota) (.slice (lessK s A c).A1 (lessK s A c).n1 (lessK s A c).c1) (.slice (lessK s A c).A2 (lessK s A c).n2 (lessK s A c).c2) (.slice (lessK s A c).A3 (lessK s A c).n3 (lessK s A c).c3)) B g s (lessK s A c) :=
  ⟨hb.st7 _ _ _ _ _ _ _, ⟨A, c, rfl⟩, own_st7 ho hg _ _ _ _ _ _ _, hg⟩
theorem OwnY.rebase {wb w w' : World} {B : Nat} {x y : XV} (h : OwnY w w' B y) (e1 : y.top = some12 x.top) (e2 : y.more = (x.more.take 20).map some12) (hx : x.Ok wb) : OwnY wb w' B y := by
  refine ⟨h.top, by rw [e1]; exact some12_ok hx.t1.ok, h.row, fun f hf => ⟨(h.lw f hf).row, ?_⟩⟩
  have h2 : f.l ∈ (x.more.take 20).map some12 := by rw [← e2]; exact List.mem_map_of_mem hf
  obtain ⟨r, hr, e⟩ := List.mem_map.1 h2
  have hr2 := List.mem_of_mem_take hr
  obtain ⟨z, hz, rfl⟩ := List.mem_map.1 hr2
  rw [← e]
  exact some12_ok (hx.t2.ok z hz).fs.ok
/-- a rest that was cut, in its box -/
structure LX (w0 W : World) (B g : Nat) (x y : XV) : Prop where
  blk : Blk W g 51 [.slice y.A1 y.n1 y.c1, .slice y.A2 y.n2 y.c2]
  own : OwnY w0 W B y
  few : y.Few
  lt : g < B
theorem LX.ok {w0 W : World} {B g : Nat} {x y : XV} (h : LX w0 W B g x y) (he : Ext w0 W) : y.Ok W := h.own.ok_ he
theorem LX.ext {w0 W W' : World} {B g : Nat} {x y : XV} (h : LX w0 W B g x y) (he : Ext W W') : LX w0 W' B g x y := ⟨h.blk.ext he, h.own.ext he, h.few, h.lt⟩
theorem LX.start {w0 W : World} {B g : Nat} {x y : XV} {a' b' : Value} (hb : Blk W g 51 [a', b']) (ho : OwnY w0 W B y) (hf : y.Few) (hg : g < B) : LX w0 (put2 W g (.slice y.A1 y.n1 y.c1) (.slice y.A2 y.n2 y.c2)) B g x y :=
  ⟨hb.st2 _ _, (ho.set (p := ⟨g, 0, none⟩) hg _).set (p := ⟨g, 1, none⟩) hg _, hf, hg⟩
theorem fs_k {w : World} {A : Option Addr} {n : Nat} {l : List FV} (h : Fs w A n l) : ∀ f ∈ l, U64 f.n ∧ f.len = f.b.length := fun f hf => ⟨(h.ok f hf).u, (h.ok f hf).bs.len.symm⟩
theorem XV.Ok.kt {w : World} {x : XV} (h : x.Ok w) : ∀ f ∈ x.top, U64 f.n ∧ f.len = f.b.length := fs_k h.t1
theorem XV.Ok.km {w : World} {x : XV} (h : x.Ok w) : ∀ m ∈ x.more, ∀ f ∈ m, U64 f.n ∧ f.len = f.b.length := fun m hm => by
  obtain ⟨z, hz, rfl⟩ := List.mem_map.1 hm
  exact fs_k (h.t2.ok z hz).fs
/-- the version that a byte says -/
def verB (n : Int) : Int := 1 + n.tmod 3
theorem verB_in (n : Int) (h0 : 0 ≤ n) : 1 ≤ verB n ∧ verB n ≤ 3 := by
  unfold verB
  rw [Int.tmod_eq_emod_of_nonneg h0]
  omega
end Go.Proofs.Ytiildgoaiookhaa
