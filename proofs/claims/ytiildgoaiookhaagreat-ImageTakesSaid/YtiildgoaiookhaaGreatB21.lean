/- Words and walks that the last text of this claim stands on: ImT, In3, In5, ImY, Im3. No condition. -/
import Derived.Test.YtiildgoaiookhaaGreatB20
import Derived.Test.YtiildgoaiookhaaGreatB12
import Derived.Test.YtiildgoaiookhaaGreatB19
import Derived.Test.YtiildgoaiookhaaGreatB17
import Derived.Test.YtiildgoaiookhaaGreatB04
/- The reader of a catalogue: its state in memory, and what reading leaves alone. -/
namespace Go.Proofs.YtiildgoaiookhaaGreat
open Go.RowKit

theorem own_neq {w w' : World} {B B' : Nat} {e e' : TypeId} {s s' n n' : Nat} {v v' : Value} {xs xs' : List Value} (h : w.ownsRow B e s v n xs) (hv : w.ownsRow B' e' s' v' n' xs') (hne : e ≠ e') (hg : w.grownBy w' v'.ownBlock) : w'.ownsRow B e s v n xs :=
  own_grown h hg (own_apart h hv hne)
theorem own_farB {w : World} {B g i : Nat} {e t : TypeId} {s n : Nat} {v : Value} {xs l : List Value} (h : w.ownsRow B e s v n xs) (hb : Blk w g t l) (hne : e ≠ t) (u : Value) : (w.setCell ⟨g, i, none⟩ u).ownsRow B e s v n xs :=
  own_far h (own_blk_ne h hb hne) u

/-- the types of what a reader writes -/
def bigT (t : TypeId) : Bool := t == 51 || (t == 63 || (t == 65 || (t == 70 || t == 30)))
/-- what a reader leaves alone: blocks of other types -/
structure TFr (w w' : World) : Prop where
  size : w.heap.size ≤ w'.heap.size
  keep : ∀ (b : Nat) (C : Array Value) (t : TypeId) (p : Nat × Nat), w.heap[b]? = some (.cells C t p) → bigT t = false → w'.heap[b]? = some (.cells C t p)
theorem TFr.refl (w : World) : TFr w w := ⟨Nat.le_refl _, fun _ _ _ _ h _ => h⟩
theorem TFr.of_ext {w w' : World} (h : Ext w w') : TFr w w' := ⟨h.size, fun b _ _ _ hb _ => (h.block b (lt_of_block hb)).trans hb⟩
theorem TFr.trans {a b c : World} (h : TFr a b) (k : TFr b c) : TFr a c := ⟨Nat.le_trans h.size k.size, fun b C t p hb ht => k.keep b C t p (h.keep b C t p hb ht) ht⟩
theorem TFr.grown {w w' : World} {B : Nat} {e : TypeId} {s n : Nat} {v : Value} {xs : List Value} (hv : w.ownsRow B e s v n xs) (he : bigT e = true) (hg : w.grownBy w' v.ownBlock) : TFr w w' := by
  refine ⟨hg.size, fun b C t p hb ht => ?_⟩
  refine (hg.block b (lt_of_block hb) fun eb => ?_).trans hb
  rcases hv.2 with ⟨rfl, _⟩ | ⟨g, cap, cur, rfl, _, hgg, _⟩
  · simp [Value.ownBlock] at eb
  · simp only [Value.ownBlock, Option.some.injEq] at eb
    subst eb
    rw [hb] at hgg
    injection hgg with hgg
    injection hgg with _ h2 _
    subst h2
    rw [ht] at he; cases he
theorem TFr.setCell {w : World} {g i : Nat} {t : TypeId} {l : List Value} (hb : Blk w g t l) (ht : bigT t = true) (u : Value) : TFr w (w.setCell ⟨g, i, none⟩ u) := by
  refine ⟨by simp, fun b C t' p hb' ht' => ?_⟩
  by_cases e : b = g
  · subst e
    exfalso
    have h2 : w.heap[b]? = some (.cells l.toArray t (0, 0)) := hb
    rw [hb'] at h2
    injection h2 with h2
    injection h2 with _ h3 _
    subst h3
    rw [ht] at ht'; cases ht'
  · exact (heap_setCell_other w _ b u (fun e2 => e e2)).trans hb'
theorem own_tfr {w w' : World} {B : Nat} {e : TypeId} {s n : Nat} {v : Value} {xs : List Value} (h : w.ownsRow B e s v n xs) (he : bigT e = false) (hf : TFr w w') : w'.ownsRow B e s v n xs := by
  refine ⟨h.1, ?_⟩
  rcases h.2 with hn | ⟨g, cap, cur, rfl, hb, hg, rest⟩
  · exact .inl hn
  · exact .inr ⟨g, cap, cur, rfl, hb, hf.keep _ _ _ _ hg he, rest⟩
theorem OwnF.tfr {w w' : World} {B : Nat} {f : FV} (h : OwnF w B f) (hf : TFr w w') : OwnF w' B f := ⟨own_tfr h.1 (by decide) hf, h.2⟩
theorem OwnR.tfr {w w' : World} {B : Nat} {v : Value} {d : List FV} (h : OwnR w B v d) (hf : TFr w w') : OwnR w' B v d := ⟨own_tfr h.row (by decide) hf, fun f hd => (h.own f hd).tfr hf⟩

/-- a rest whose rows, and fields, are the call's own -/
structure OwnZ (w : World) (B : Nat) (x : XV) : Prop where
  top : OwnR w B (.slice x.A1 x.n1 x.c1) x.top
  n1 : x.n1 = x.top.length
  row : w.ownsRow B 30 1 (.slice x.A2 x.n2 x.c2) x.n2 (thingsOf x.sns)
  sn : ∀ f ∈ x.sns, OwnR w B (.slice f.A f.len f.cap) f.l ∧ f.len = f.l.length
theorem OwnZ.ext {w w' : World} {B : Nat} {x : XV} (h : OwnZ w B x) (he : Ext w w') : OwnZ w' B x := ⟨h.top.ext he, h.n1, own_ext h.row he, fun f hf => ⟨(h.sn f hf).1.ext he, (h.sn f hf).2⟩⟩
theorem OwnZ.ok {w : World} {B : Nat} {x : XV} (h : OwnZ w B x) : x.Ok w :=
  ⟨h.top.fs h.n1, (own_bounds (n := x.n1) (by have := h.top.row; rw [← h.n1] at this; exact this)).1, (own_bounds (n := x.n1) (by have := h.top.row; rw [← h.n1] at this; exact this)).2,
    Ts.of_own h.row (fun f hf => ⟨(h.sn f hf).1.fs (h.sn f hf).2, (own_bounds (n := f.len) (by have := (h.sn f hf).1.row; rw [← (h.sn f hf).2] at this; exact this)).1, (own_bounds (n := f.len) (by have := (h.sn f hf).1.row; rw [← (h.sn f hf).2] at this; exact this)).2⟩) (by omega), (own_bounds h.row).1, (own_bounds h.row).2⟩
theorem OwnR.gr {w w' : World} {B B' : Nat} {e : TypeId} {s n : Nat} {v v' : Value} {d : List FV} {xs : List Value} (h : OwnR w B v d) (hv : w.ownsRow B' e s v' n xs) (h1 : 54 ≠ e) (h2 : 5 ≠ e) (hg : w.grownBy w' v'.ownBlock) : OwnR w' B v d :=
  ⟨own_neq h.row hv h1 hg, fun f hf => ⟨own_neq (h.own f hf).1 hv h2 hg, (h.own f hf).2⟩⟩
theorem OwnZ.gr {w w' : World} {B B' : Nat} {e : TypeId} {s n : Nat} {v : Value} {x : XV} {xs : List Value} (h : OwnZ w B x) (hv : w.ownsRow B' e s v n xs) (h1 : 54 ≠ e) (h2 : 5 ≠ e) (h3 : 30 ≠ e) (hg : w.grownBy w' v.ownBlock) : OwnZ w' B x :=
  ⟨h.top.gr hv h1 h2 hg, h.n1, own_neq h.row hv h3 hg, fun f hf => ⟨(h.sn f hf).1.gr hv h1 h2 hg, (h.sn f hf).2⟩⟩
theorem OwnZ.farR {w : World} {B g i : Nat} {x : XV} {l : List Value} (h : OwnZ w B x) (hb : Blk w g 51 l) (u : Value) : OwnZ (w.setCell ⟨g, i, none⟩ u) B x :=
  ⟨h.top.far hb (by decide) (by decide) u, h.n1, own_farB h.row hb (by decide) u, fun f hf => ⟨(h.sn f hf).1.far hb (by decide) (by decide) u, (h.sn f hf).2⟩⟩
theorem OwnK.farR {w : World} {B g i : Nat} {t : KV} {l : List Value} (h : OwnK w B t) (hb : Blk w g 51 l) (u : Value) : OwnK (w.setCell ⟨g, i, none⟩ u) B t :=
  ⟨h.u0, h.u1, h.u2, h.u3, own_farB h.o1 hb (by decide) u, own_farB h.o2 hb (by decide) u, own_farB h.o3 hb (by decide) u, fun f hf => ⟨(h.k1 f hf).u0, (h.k1 f hf).u1, (h.k1 f hf).u2, (h.k1 f hf).u3⟩, fun f hf => ⟨(h.k2 f hf).u0, (h.k2 f hf).u1⟩,
    fun f hf => ⟨(h.k3 f hf).u0, (h.k3 f hf).u1, own_farB (h.k3 f hf).own hb (by decide) u, (h.k3 f hf).uc, (h.k3 f hf).ut⟩⟩

/-- the reader -/
structure RS (w0 w : World) (g : Nat) (ver : Int) (s : KV) (x : XV) : Prop where
  blk : Blk w g 51 [.int .i64 ver, .int .i64 s.ver, .int .i64 s.next, .int .i64 s.keep, .int .i64 s.quota, .slice s.A1 s.n1 s.c1, .slice s.A2 s.n2 s.c2, .slice s.A3 s.n3 s.c3, .slice x.A1 x.n1 x.c1, .slice x.A2 x.n2 x.c2]
  ok : OwnK w w0.heap.size s
  oz : OwnZ w w0.heap.size x
  ge : w0.heap.size ≤ g
  ext : Ext w0 w
  len : x.sns.length = s.sns.length
theorem RS.to {w0 w w' : World} {g : Nat} {ver : Int} {s : KV} {x : XV} (h : RS w0 w g ver s x) (he : Ext w w') : RS w0 w' g ver s x := ⟨h.blk.ext he, h.ok.ext he, h.oz.ext he, h.ge, h.ext.trans he, h.len⟩
theorem RS.gr {w0 w w6 : World} {g : Nat} {ver : Int} {s : KV} {x : XV} {B : Nat} {e : TypeId} {sz n : Nat} {v : Value} {xs : List Value} (h : RS w0 w g ver s x) (hv : w.ownsRow B e sz v n xs) (he : e ≠ 51) (hg : w.grownBy w6 v.ownBlock) :
    Blk w6 g 51 [.int .i64 ver, .int .i64 s.ver, .int .i64 s.next, .int .i64 s.keep, .int .i64 s.quota, .slice s.A1 s.n1 s.c1, .slice s.A2 s.n2 s.c2, .slice s.A3 s.n3 s.c3, .slice x.A1 x.n1 x.c1, .slice x.A2 x.n2 x.c2] :=
  h.blk.grown hg (fun e => own_blk_ne hv h.blk he e.symm)
theorem RS.at_ {w0 w w' w6 : World} {g : Nat} {ver : Int} {s : KV} {x : XV} {row : Option Nat} (h : RS w0 w g ver s x) (_ : w'.grownBy w6 row) (he : Ext w w') : RS w0 w' g ver s x := h.to he
theorem ext_at {w w' w6 : World} {row : Option Nat} (_ : w'.grownBy w6 row) (he : Ext w w') : Ext w w' := he
def setVer (s : KV) (m : Int) : KV := ⟨m, s.next, s.keep, s.quota, s.A1, s.n1, s.c1, s.ses, s.A2, s.n2, s.c2, s.ops, s.A3, s.n3, s.c3, s.sns⟩
def setNext (s : KV) (m : Int) : KV := ⟨s.ver, m, s.keep, s.quota, s.A1, s.n1, s.c1, s.ses, s.A2, s.n2, s.c2, s.ops, s.A3, s.n3, s.c3, s.sns⟩
def setKeep (s : KV) (m : Int) : KV := ⟨s.ver, s.next, m, s.quota, s.A1, s.n1, s.c1, s.ses, s.A2, s.n2, s.c2, s.ops, s.A3, s.n3, s.c3, s.sns⟩
def setQuota (s : KV) (m : Int) : KV := ⟨s.ver, s.next, s.keep, m, s.A1, s.n1, s.c1, s.ses, s.A2, s.n2, s.c2, s.ops, s.A3, s.n3, s.c3, s.sns⟩
section
variable {w0 w : World} {g : Nat} {ver : Int} {s : KV} {x : XV} {m : Int}
theorem RS.setVer (h : RS w0 w g ver s x) (hm : I64 m) : RS w0 (w.setCell ⟨g, 1, none⟩ (.int .i64 m)) g ver (Go.Proofs.YtiildgoaiookhaaGreat.setVer s m) x := by
  have k := h.ok.farR (i := 1) h.blk (.int .i64 m)
  exact ⟨h.blk.set_ 1 _, ⟨hm, k.u1, k.u2, k.u3, k.o1, k.o2, k.o3, k.k1, k.k2, k.k3⟩, h.oz.farR h.blk _, h.ge, h.ext.setCell (p := ⟨g, 1, none⟩) h.ge _, h.len⟩
theorem RS.setNext (h : RS w0 w g ver s x) (hm : I64 m) : RS w0 (w.setCell ⟨g, 2, none⟩ (.int .i64 m)) g ver (Go.Proofs.YtiildgoaiookhaaGreat.setNext s m) x := by
  have k := h.ok.farR (i := 2) h.blk (.int .i64 m)
  exact ⟨h.blk.set_ 2 _, ⟨k.u0, hm, k.u2, k.u3, k.o1, k.o2, k.o3, k.k1, k.k2, k.k3⟩, h.oz.farR h.blk _, h.ge, h.ext.setCell (p := ⟨g, 2, none⟩) h.ge _, h.len⟩
theorem RS.setKeep (h : RS w0 w g ver s x) (hm : I64 m) : RS w0 (w.setCell ⟨g, 3, none⟩ (.int .i64 m)) g ver (Go.Proofs.YtiildgoaiookhaaGreat.setKeep s m) x := by
  have k := h.ok.farR (i := 3) h.blk (.int .i64 m)
  exact ⟨h.blk.set_ 3 _, ⟨k.u0, k.u1, hm, k.u3, k.o1, k.o2, k.o3, k.k1, k.k2, k.k3⟩, h.oz.farR h.blk _, h.ge, h.ext.setCell (p := ⟨g, 3, none⟩) h.ge _, h.len⟩
theorem RS.setQuota (h : RS w0 w g ver s x) (hm : I64 m) : RS w0 (w.setCell ⟨g, 4, none⟩ (.int .i64 m)) g ver (Go.Proofs.YtiildgoaiookhaaGreat.setQuota s m) x := by
  have k := h.ok.farR (i := 4) h.blk (.int .i64 m)
  exact ⟨h.blk.set_ 4 _, ⟨k.u0, k.u1, k.u2, hm, k.o1, k.o2, k.o3, k.k1, k.k2, k.k3⟩, h.oz.farR h.blk _, h.ge, h.ext.setCell (p := ⟨g, 4, none⟩) h.ge _, h.len⟩
end
def addSes (s : KV) (A : Option Addr) (c : Nat) (f : CV) : KV := ⟨s.ver, s.next, s.keep, s.quota, A, s.n1 + 1, c, s.ses ++ [f], s.A2, s.n2, s.c2, s.ops, s.A3, s.n3, s.c3, s.sns⟩
def addOps (s : KV) (A : Option Addr) (c : Nat) (f : OV) : KV := ⟨s.ver, s.next, s.keep, s.quota, s.A1, s.n1, s.c1, s.ses, A, s.n2 + 1, c, s.ops ++ [f], s.A3, s.n3, s.c3, s.sns⟩
def addSns (s : KV) (A : Option Addr) (c : Nat) (f : NV) : KV := ⟨s.ver, s.next, s.keep, s.quota, s.A1, s.n1, s.c1, s.ses, s.A2, s.n2, s.c2, s.ops, A, s.n3 + 1, c, s.sns ++ [f]⟩
def addMore (x : XV) (A : Option Addr) (c : Nat) (f : WV) : XV := ⟨x.A1, x.n1, x.c1, x.top, A, x.n2 + 1, c, x.sns ++ [f]⟩
section
variable {w0 w w6 : World} {g : Nat} {ver : Int} {s : KV} {x : XV} {A : Option Addr} {c : Nat}
/-- a client more -/
theorem RS.addSes {f : CV} (h : RS w0 w g ver s x) (hf : I64 f.client ∧ I64 f.seq ∧ I64 f.code ∧ I64 f.n) (hg : w.grownBy w6 (Value.slice s.A1 s.n1 s.c1).ownBlock) (ho : w6.ownsRow w0.heap.size 63 4 (.slice A (s.n1 + 1) c) (s.n1 + 1) (thingsOf s.ses ++ f.cells)) :
    RS w0 (w6.setCell ⟨g, 5, none⟩ (.slice A (s.n1 + 1) c)) g ver (Go.Proofs.YtiildgoaiookhaaGreat.addSes s A c f) x ∧ TFr w (w6.setCell ⟨g, 5, none⟩ (.slice A (s.n1 + 1) c)) := by
  have hb6 := h.blk.grown hg (fun e => own_blk_ne h.ok.o1 h.blk (by decide) e.symm)
  have x6 : Ext w0 w6 := Below.app h.ext hg h.ext.size h.ok.o1 (Nat.le_refl _)
  have k6 : OwnK w6 w0.heap.size (Go.Proofs.YtiildgoaiookhaaGreat.addSes s A c f) := by
    refine ⟨h.ok.u0, h.ok.u1, h.ok.u2, h.ok.u3, ?_, own_neq h.ok.o2 h.ok.o1 (by decide) hg, own_neq h.ok.o3 h.ok.o1 (by decide) hg, fun y hy => ?_, fun y hy => ⟨(h.ok.k2 y hy).u0, (h.ok.k2 y hy).u1⟩, fun y hy => ⟨(h.ok.k3 y hy).u0, (h.ok.k3 y hy).u1, own_neq (h.ok.k3 y hy).own h.ok.o1 (by decide) hg, (h.ok.k3 y hy).uc, (h.ok.k3 y hy).ut⟩⟩
    · unfold Go.Proofs.YtiildgoaiookhaaGreat.addSes
      dsimp only
      rw [thingsOf_append, thingsOf_one]
      exact ho
    · unfold Go.Proofs.YtiildgoaiookhaaGreat.addSes at hy
      rcases List.mem_append.1 hy with hy | hy
      · exact ⟨(h.ok.k1 y hy).u0, (h.ok.k1 y hy).u1, (h.ok.k1 y hy).u2, (h.ok.k1 y hy).u3⟩
      · simp only [List.mem_singleton] at hy
        subst hy; exact ⟨hf.1, hf.2.1, hf.2.2.1, hf.2.2.2⟩
  refine ⟨⟨hb6.set_ 5 _, k6.farR hb6 _, (h.oz.gr h.ok.o1 (by decide) (by decide) (by decide) hg).farR hb6 _, h.ge, x6.setCell (p := ⟨g, 5, none⟩) h.ge _, h.len⟩, (TFr.grown h.ok.o1 (by decide) hg).trans (TFr.setCell hb6 (by decide) _)⟩
/-- an open backup more -/
theorem RS.addOps {f : OV} (h : RS w0 w g ver s x) (hf : I64 f.set ∧ I64 f.client) (hg : w.grownBy w6 (Value.slice s.A2 s.n2 s.c2).ownBlock) (ho : w6.ownsRow w0.heap.size 65 2 (.slice A (s.n2 + 1) c) (s.n2 + 1) (thingsOf s.ops ++ f.cells)) :
    RS w0 (w6.setCell ⟨g, 6, none⟩ (.slice A (s.n2 + 1) c)) g ver (Go.Proofs.YtiildgoaiookhaaGreat.addOps s A c f) x ∧ TFr w (w6.setCell ⟨g, 6, none⟩ (.slice A (s.n2 + 1) c)) := by
  have hb6 := h.blk.grown hg (fun e => own_blk_ne h.ok.o2 h.blk (by decide) e.symm)
  have x6 : Ext w0 w6 := Below.app h.ext hg h.ext.size h.ok.o2 (Nat.le_refl _)
  have k6 : OwnK w6 w0.heap.size (Go.Proofs.YtiildgoaiookhaaGreat.addOps s A c f) := by
    refine ⟨h.ok.u0, h.ok.u1, h.ok.u2, h.ok.u3, own_neq h.ok.o1 h.ok.o2 (by decide) hg, ?_, own_neq h.ok.o3 h.ok.o2 (by decide) hg, fun y hy => ⟨(h.ok.k1 y hy).u0, (h.ok.k1 y hy).u1, (h.ok.k1 y hy).u2, (h.ok.k1 y hy).u3⟩, fun y hy => ?_, fun y hy => ⟨(h.ok.k3 y hy).u0, (h.ok.k3 y hy).u1, own_neq (h.ok.k3 y hy).own h.ok.o2 (by decide) hg, (h.ok.k3 y hy).uc, (h.ok.k3 y hy).ut⟩⟩
    · unfold Go.Proofs.YtiildgoaiookhaaGreat.addOps
      dsimp only
      rw [thingsOf_append, thingsOf_one]
      exact ho
    · unfold Go.Proofs.YtiildgoaiookhaaGreat.addOps at hy
      rcases List.mem_append.1 hy with hy | hy
      · exact ⟨(h.ok.k2 y hy).u0, (h.ok.k2 y hy).u1⟩
      · simp only [List.mem_singleton] at hy
        subst hy; exact ⟨hf.1, hf.2⟩
  refine ⟨⟨hb6.set_ 6 _, k6.farR hb6 _, (h.oz.gr h.ok.o2 (by decide) (by decide) (by decide) hg).farR hb6 _, h.ge, x6.setCell (p := ⟨g, 6, none⟩) h.ge _, h.len⟩, (TFr.grown h.ok.o2 (by decide) hg).trans (TFr.setCell hb6 (by decide) _)⟩
end
/-- a reader that has one snapshot more than lists -/
structure RT (w0 w : World) (g : Nat) (ver : Int) (s : KV) (x : XV) : Prop where
  blk : Blk w g 51 [.int .i64 ver, .int .i64 s.ver, .int .i64 s.next, .int .i64 s.keep, .int .i64 s.quota, .slice s.A1 s.n1 s.c1, .slice s.A2 s.n2 s.c2, .slice s.A3 s.n3 s.c3, .slice x.A1 x.n1 x.c1, .slice x.A2 x.n2 x.c2]
  ok : OwnK w w0.heap.size s
  oz : OwnZ w w0.heap.size x
  ge : w0.heap.size ≤ g
  ext : Ext w0 w
  len : x.sns.length + 1 = s.sns.length
section
variable {w0 w w6 : World} {g : Nat} {ver : Int} {s : KV} {x : XV} {A : Option Addr} {c : Nat}
theorem RT.to {w' : World} (h : RT w0 w g ver s x) (he : Ext w w') : RT w0 w' g ver s x := ⟨h.blk.ext he, h.ok.ext he, h.oz.ext he, h.ge, h.ext.trans he, h.len⟩
/-- a snapshot more -/
theorem RS.addSns {f : NV} (h : RS w0 w g ver s x) (hf : OwnN w w0.heap.size f) (hg : w.grownBy w6 (Value.slice s.A3 s.n3 s.c3).ownBlock) (ho : w6.ownsRow w0.heap.size 70 5 (.slice A (s.n3 + 1) c) (s.n3 + 1) (thingsOf s.sns ++ f.cells)) :
    RT w0 (w6.setCell ⟨g, 7, none⟩ (.slice A (s.n3 + 1) c)) g ver (Go.Proofs.YtiildgoaiookhaaGreat.addSns s A c f) x ∧ TFr w (w6.setCell ⟨g, 7, none⟩ (.slice A (s.n3 + 1) c)) := by
  have hb6 := h.blk.grown hg (fun e => own_blk_ne h.ok.o3 h.blk (by decide) e.symm)
  have x6 : Ext w0 w6 := Below.app h.ext hg h.ext.size h.ok.o3 (Nat.le_refl _)
  have k6 : OwnK w6 w0.heap.size (Go.Proofs.YtiildgoaiookhaaGreat.addSns s A c f) := by
    refine ⟨h.ok.u0, h.ok.u1, h.ok.u2, h.ok.u3, own_neq h.ok.o1 h.ok.o3 (by decide) hg, own_neq h.ok.o2 h.ok.o3 (by decide) hg, ?_, fun y hy => ⟨(h.ok.k1 y hy).u0, (h.ok.k1 y hy).u1, (h.ok.k1 y hy).u2, (h.ok.k1 y hy).u3⟩, fun y hy => ⟨(h.ok.k2 y hy).u0, (h.ok.k2 y hy).u1⟩, fun y hy => ?_⟩
    · unfold Go.Proofs.YtiildgoaiookhaaGreat.addSns
      dsimp only
      rw [thingsOf_append, thingsOf_one]
      exact ho
    · unfold Go.Proofs.YtiildgoaiookhaaGreat.addSns at hy
      rcases List.mem_append.1 hy with hy | hy
      · exact ⟨(h.ok.k3 y hy).u0, (h.ok.k3 y hy).u1, own_neq (h.ok.k3 y hy).own h.ok.o3 (by decide) hg, (h.ok.k3 y hy).uc, (h.ok.k3 y hy).ut⟩
      · simp only [List.mem_singleton] at hy
        subst hy; exact ⟨hf.u0, hf.u1, own_neq hf.own h.ok.o3 (by decide) hg, hf.uc, hf.ut⟩
  refine ⟨⟨hb6.set_ 7 _, k6.farR hb6 _, (h.oz.gr h.ok.o3 (by decide) (by decide) (by decide) hg).farR hb6 _, h.ge, x6.setCell (p := ⟨g, 7, none⟩) h.ge _, ?_⟩, (TFr.grown h.ok.o3 (by decide) hg).trans (TFr.setCell hb6 (by decide) _)⟩
  have := h.len
  unfold Go.Proofs.YtiildgoaiookhaaGreat.addSns
  simp; exact this
/-- its list -/
theorem RT.addMore {f : WV} (h : RT w0 w g ver s x) (hf : OwnR w w0.heap.size (.slice f.A f.len f.cap) f.l) (hfl : f.len = f.l.length) (hg : w.grownBy w6 (Value.slice x.A2 x.n2 x.c2).ownBlock) (ho : w6.ownsRow w0.heap.size 30 1 (.slice A (x.n2 + 1) c) (x.n2 + 1) (thingsOf x.sns ++ f.cells)) :
    RS w0 (w6.setCell ⟨g, 9, none⟩ (.slice A (x.n2 + 1) c)) g ver s (Go.Proofs.YtiildgoaiookhaaGreat.addMore x A c f) ∧ TFr w (w6.setCell ⟨g, 9, none⟩ (.slice A (x.n2 + 1) c)) := by
  have hb6 := h.blk.grown hg (fun e => own_blk_ne h.oz.row h.blk (by decide) e.symm)
  have x6 : Ext w0 w6 := Below.app h.ext hg h.ext.size h.oz.row (Nat.le_refl _)
  have hk := h.ok
  have k6 : OwnK w6 w0.heap.size s :=
    ⟨hk.u0, hk.u1, hk.u2, hk.u3, own_neq hk.o1 h.oz.row (by decide) hg, own_neq hk.o2 h.oz.row (by decide) hg, own_neq hk.o3 h.oz.row (by decide) hg, fun y hy => ⟨(hk.k1 y hy).u0, (hk.k1 y hy).u1, (hk.k1 y hy).u2, (hk.k1 y hy).u3⟩, fun y hy => ⟨(hk.k2 y hy).u0, (hk.k2 y hy).u1⟩,
      fun y hy => ⟨(hk.k3 y hy).u0, (hk.k3 y hy).u1, own_neq (hk.k3 y hy).own h.oz.row (by decide) hg, (hk.k3 y hy).uc, (hk.k3 y hy).ut⟩⟩
  have z6 : OwnZ w6 w0.heap.size (Go.Proofs.YtiildgoaiookhaaGreat.addMore x A c f) := by
    refine ⟨h.oz.top.gr h.oz.row (by decide) (by decide) hg, h.oz.n1, ?_, fun y hy => ?_⟩
    · unfold Go.Proofs.YtiildgoaiookhaaGreat.addMore
      dsimp only
      rw [thingsOf_append, thingsOf_one]
      exact ho
    · unfold Go.Proofs.YtiildgoaiookhaaGreat.addMore at hy
      rcases List.mem_append.1 hy with hy | hy
      · exact ⟨(h.oz.sn y hy).1.gr h.oz.row (by decide) (by decide) hg, (h.oz.sn y hy).2⟩
      · simp only [List.mem_singleton] at hy
        subst hy; exact ⟨hf.gr h.oz.row (by decide) (by decide) hg, hfl⟩
  refine ⟨⟨hb6.set_ 9 _, k6.farR hb6 _, z6.farR hb6 _, h.ge, x6.setCell (p := ⟨g, 9, none⟩) h.ge _, ?_⟩, (TFr.grown h.oz.row (by decide) hg).trans (TFr.setCell hb6 (by decide) _)⟩
  have := h.len
  unfold Go.Proofs.YtiildgoaiookhaaGreat.addMore
  simp; exact this
end
end Go.Proofs.YtiildgoaiookhaaGreat

/- The document's Take: what it says, and its state in memory. -/
namespace Go.Proofs.YtiildgoaiookhaaGreat
open Go.RowKit

/-- what was put as the same bytes is the catalogue -/
theorem dtaken_ok {v : Int} {b : List UInt8} {s : KV} {m : List (List FV)} {a : List FV} (h : kput v s m a = (b, 0)) (kt : ∀ f ∈ a, U64 f.n ∧ f.len = f.b.length) (km : ∀ r ∈ m, ∀ f ∈ r, U64 f.n ∧ f.len = f.b.length) (hl : m.length = s.sns.length) : KTaken v b s m a 0 :=
  .inl ⟨rfl, kput_is h kt km, hl⟩
/-- what is read of a row that no catalogue put is refused -/
theorem dtaken_no {v : Int} {b : List UInt8} {s t : KV} {m n : List (List FV)} {a c L : List FV} (hv : inI v 1 3 = true) (h1 : (ttrow b).2 = 0) (h2 : checkN (specL 5 v) (ttrow b).1 = 0) (h3 : kreadE v (ttrow b).1 = 0) (hL : L.map FV.s = (ttrow b).1.map FV.s)
    (hr : t.rk n = dread v L) (hc : c.map FV.s = (L.filter fun f => !loB (topS v) f).map FV.s) (hl : n.length ≤ t.sns.length) (hp : kput v t n c ≠ (b, 0))
    (z : s.ver = 0 ∧ s.next = 0 ∧ s.keep = 0 ∧ s.quota = 0 ∧ s.ses = [] ∧ s.ops = [] ∧ s.sns = [] ∧ m = [] ∧ a = []) : KTaken v b s m a 6 := by
  refine .inr ⟨by decide, ?_, z.1, z.2.1, z.2.2.1, z.2.2.2.1, z.2.2.2.2.1, z.2.2.2.2.2.1, z.2.2.2.2.2.2.1, z.2.2.2.2.2.2.2.1, z.2.2.2.2.2.2.2.2, fun t' n' c' k => hp ?_⟩
  · unfold kcode
    rw [if_neg (by simp [hv]), if_neg (by simp [h1]), if_neg (by simp [h2]), if_neg (by simp [h3])]
  · obtain ⟨_, _, _, _, k5⟩ := k.all
    exact k.back (hr.trans (k.dread hL)) (k5 c (hc.trans (s_filter hL (topS v)).2)) hl
/-- an error is the document's -/
theorem dtaken_err {v : Int} {b : List UInt8} {s : KV} {m : List (List FV)} {a : List FV} {e : Nat} (he : e ≠ 0) (hk : e = kcode v b) (hn : inI v 1 3 = false ∨ (ttrow b).2 ≠ 0 ∨ checkN (specL 5 v) (ttrow b).1 ≠ 0 ∨ kreadE v (ttrow b).1 ≠ 0)
    (z : s.ver = 0 ∧ s.next = 0 ∧ s.keep = 0 ∧ s.quota = 0 ∧ s.ses = [] ∧ s.ops = [] ∧ s.sns = [] ∧ m = [] ∧ a = []) : KTaken v b s m a e := by
  refine .inr ⟨he, hk, z.1, z.2.1, z.2.2.1, z.2.2.2.1, z.2.2.2.2.1, z.2.2.2.2.2.1, z.2.2.2.2.2.2.1, z.2.2.2.2.2.2.2.1, z.2.2.2.2.2.2.2.2, fun t' n' c' k => ?_⟩
  have hm := kmay_parts k.may
  obtain ⟨k1, k2, k3, _, _⟩ := k.all
  rcases hn with h | h | h | h
  · rw [inI_t hm.v1 hm.v3] at h; cases h
  · exact h k1
  · exact h k2
  · exact h k3
theorem dread_snoc (v : Int) (Z : RK) (l : List FV) (j : Nat) (h : j < l.length) : (l.take (j + 1)).foldl (dstep v) Z = dstep v ((l.take j).foldl (dstep v) Z) l[j] := fold_take _ _ l j h

/-! the state in memory -/
/-- the types of what the document's Take writes -/
def bigD (t : TypeId) : Bool := t == 29 || (t == 33 || (t == 63 || (t == 65 || (t == 70 || t == 30))))
/-- the two boxes' types -/
def smallD (t : TypeId) : Bool := t == 29 || t == 33
/-- what it leaves alone: blocks of other types, and boxes ahead of m -/
structure DFr (m : Nat) (w w' : World) : Prop where
  size : w.heap.size ≤ w'.heap.size
  keep : ∀ (b : Nat) (C : Array Value) (t : TypeId) (p : Nat × Nat), w.heap[b]? = some (.cells C t p) → (bigD t = false ∨ (smallD t = true ∧ b < m)) → w'.heap[b]? = some (.cells C t p)
theorem DFr.refl (m : Nat) (w : World) : DFr m w w := ⟨Nat.le_refl _, fun _ _ _ _ h _ => h⟩
theorem DFr.of_ext {m : Nat} {w w' : World} (h : Ext w w') : DFr m w w' := ⟨h.size, fun b _ _ _ hb _ => (h.block b (lt_of_block hb)).trans hb⟩
theorem DFr.trans {m : Nat} {a b c : World} (h : DFr m a b) (k : DFr m b c) : DFr m a c := ⟨Nat.le_trans h.size k.size, fun b C t p hb ht => k.keep b C t p (h.keep b C t p hb ht) ht⟩
theorem DFr.grown {m : Nat} {w w' : World} {B : Nat} {e : TypeId} {s n : Nat} {v : Value} {xs : List Value} (hv : w.ownsRow B e s v n xs) (he : bigD e = true) (hs : smallD e = false) (hg : w.grownBy w' v.ownBlock) : DFr m w w' := by
  refine ⟨hg.size, fun b C t p hb ht => ?_⟩
  refine (hg.block b (lt_of_block hb) fun eb => ?_).trans hb
  rcases hv.2 with ⟨rfl, _⟩ | ⟨g, cap, cur, rfl, _, hgg, _⟩
  · simp [Value.ownBlock] at eb
  · simp only [Value.ownBlock, Option.some.injEq] at eb
    subst eb
    rw [hb] at hgg
    injection hgg with hgg
    injection hgg with _ h2 _
    subst h2
    rcases ht with ht | ht
    · rw [ht] at he; cases he
    · rw [ht.1] at hs; cases hs
theorem DFr.setCell {m : Nat} {w : World} {g i : Nat} {t : TypeId} {l : List Value} (hb : Blk w g t l) (ht : bigD t = true) (hm : m ≤ g) (u : Value) : DFr m w (w.setCell ⟨g, i, none⟩ u) := by
  refine ⟨by simp, fun b C t' p hb' ht' => ?_⟩
  by_cases e : b = g
  · subst e
    exfalso
    have h2 : w.heap[b]? = some (.cells l.toArray t (0, 0)) := hb
    rw [hb'] at h2
    injection h2 with h2
    injection h2 with _ h3 _
    subst h3
    rcases ht' with ht' | ht'
    · rw [ht'] at ht; cases ht
    · omega
  · exact (heap_setCell_other w _ b u (fun e2 => e e2)).trans hb'
theorem own_dfr {m : Nat} {w w' : World} {B : Nat} {e : TypeId} {s n : Nat} {v : Value} {xs : List Value} (h : w.ownsRow B e s v n xs) (he : bigD e = false) (hf : DFr m w w') : w'.ownsRow B e s v n xs := by
  refine ⟨h.1, ?_⟩
  rcases h.2 with hn | ⟨g, cap, cur, rfl, hb, hg, rest⟩
  · exact .inl hn
  · exact .inr ⟨g, cap, cur, rfl, hb, hf.keep _ _ _ _ hg (.inl he), rest⟩
theorem OwnF.dfr {m : Nat} {w w' : World} {B : Nat} {f : FV} (h : OwnF w B f) (hf : DFr m w w') : OwnF w' B f := ⟨own_dfr h.1 (by decide) hf, h.2⟩
theorem OwnR.dfr {m : Nat} {w w' : World} {B : Nat} {v : Value} {d : List FV} (h : OwnR w B v d) (hf : DFr m w w') : OwnR w' B v d := ⟨own_dfr h.row (by decide) hf, fun f hd => (h.own f hd).dfr hf⟩
theorem Blk.dfr {m : Nat} {w w' : World} {g : Nat} {t : TypeId} {l : List Value} (h : Blk w g t l) (ht : bigD t = false) (hf : DFr m w w') : Blk w' g t l := hf.keep g _ t _ h (.inl ht)
theorem Blk.dfs {m : Nat} {w w' : World} {g : Nat} {t : TypeId} {l : List Value} (h : Blk w g t l) (ht : smallD t = true) (hg : g < m) (hf : DFr m w w') : Blk w' g t l := hf.keep g _ t _ h (.inr ⟨ht, hg⟩)
theorem OwnZ.farT {w : World} {B g i : Nat} {T : TypeId} {x : XV} {l : List Value} (h : OwnZ w B x) (hb : Blk w g T l) (h1 : 54 ≠ T) (h2 : 5 ≠ T) (h3 : 30 ≠ T) (u : Value) : OwnZ (w.setCell ⟨g, i, none⟩ u) B x :=
  ⟨h.top.far hb h2 h1 u, h.n1, own_farB h.row hb h3 u, fun f hf => ⟨(h.sn f hf).1.far hb h2 h1 u, (h.sn f hf).2⟩⟩
theorem OwnK.farT {w : World} {B g i : Nat} {T : TypeId} {t : KV} {l : List Value} (h : OwnK w B t) (hb : Blk w g T l) (h1 : 63 ≠ T) (h2 : 65 ≠ T) (h3 : 70 ≠ T) (h4 : 3 ≠ T) (u : Value) : OwnK (w.setCell ⟨g, i, none⟩ u) B t :=
  ⟨h.u0, h.u1, h.u2, h.u3, own_farB h.o1 hb h1 u, own_farB h.o2 hb h2 u, own_farB h.o3 hb h3 u, fun f hf => ⟨(h.k1 f hf).u0, (h.k1 f hf).u1, (h.k1 f hf).u2, (h.k1 f hf).u3⟩, fun f hf => ⟨(h.k2 f hf).u0, (h.k2 f hf).u1⟩,
    fun f hf => ⟨(h.k3 f hf).u0, (h.k3 f hf).u1, own_farB (h.k3 f hf).own hb h4 u, (h.k3 f hf).uc, (h.k3 f hf).ut⟩⟩
/-- the state and the rest in their boxes -/
structure RD (w0 w : World) (g k : Nat) (s : KV) (x : XV) : Prop where
  bs : Blk w g 29 [.int .i64 s.ver, .int .i64 s.next, .int .i64 s.keep, .int .i64 s.quota, .slice s.A1 s.n1 s.c1, .slice s.A2 s.n2 s.c2, .slice s.A3 s.n3 s.c3]
  bx : Blk w k 33 [.slice x.A1 x.n1 x.c1, .slice x.A2 x.n2 x.c2]
  ok : OwnK w w0.heap.size s
  oz : OwnZ w w0.heap.size x
  ge : w0.heap.size + 2 ≤ g
  gk : w0.heap.size + 2 ≤ k
  ne : k ≠ g
  ext : Ext w0 w
  len : x.sns.length = s.sns.length
theorem RD.to {w0 w w' : World} {g k : Nat} {s : KV} {x : XV} (h : RD w0 w g k s x) (he : Ext w w') : RD w0 w' g k s x := ⟨h.bs.ext he, h.bx.ext he, h.ok.ext he, h.oz.ext he, h.ge, h.gk, h.ne, h.ext.trans he, h.len⟩
/-- as it, with a snapshot more than lists -/
structure RE_ (w0 w : World) (g k : Nat) (s : KV) (x : XV) : Prop where
  bs : Blk w g 29 [.int .i64 s.ver, .int .i64 s.next, .int .i64 s.keep, .int .i64 s.quota, .slice s.A1 s.n1 s.c1, .slice s.A2 s.n2 s.c2, .slice s.A3 s.n3 s.c3]
  bx : Blk w k 33 [.slice x.A1 x.n1 x.c1, .slice x.A2 x.n2 x.c2]
  ok : OwnK w w0.heap.size s
  oz : OwnZ w w0.heap.size x
  ge : w0.heap.size + 2 ≤ g
  gk : w0.heap.size + 2 ≤ k
  ne : k ≠ g
  ext : Ext w0 w
  len : x.sns.length + 1 = s.sns.length
theorem RE_.to {w0 w w' : World} {g k : Nat} {s : KV} {x : XV} (h : RE_ w0 w g k s x) (he : Ext w w') : RE_ w0 w' g k s x := ⟨h.bs.ext he, h.bx.ext he, h.ok.ext he, h.oz.ext he, h.ge, h.gk, h.ne, h.ext.trans he, h.len⟩
section
variable {w0 w w6 : World} {g k : Nat} {s : KV} {x : XV} {A : Option Addr} {c : Nat}
theorem RD.addSes {f : CV} (h : RD w0 w g k s x) (hf : I64 f.client ∧ I64 f.seq ∧ I64 f.code ∧ I64 f.n) (hg : w.grownBy w6 (Value.slice s.A1 s.n1 s.c1).ownBlock) (ho : w6.ownsRow w0.heap.size 63 4 (.slice A (s.n1 + 1) c) (s.n1 + 1) (thingsOf s.ses ++ f.cells)) :
    RD w0 (w6.setCell ⟨g, 4, none⟩ (.slice A (s.n1 + 1) c)) g k (Go.Proofs.YtiildgoaiookhaaGreat.addSes s A c f) x ∧ DFr (w0.heap.size + 2) w (w6.setCell ⟨g, 4, none⟩ (.slice A (s.n1 + 1) c)) := by
  have hb6 := h.bs.grown hg (fun e => own_blk_ne h.ok.o1 h.bs (by decide) e.symm)
  have hr6 := h.bx.grown hg (fun e => own_blk_ne h.ok.o1 h.bx (by decide) e.symm)
  have x6 : Ext w0 w6 := Below.app h.ext hg h.ext.size h.ok.o1 (Nat.le_refl _)
  have k6 : OwnK w6 w0.heap.size (Go.Proofs.YtiildgoaiookhaaGreat.addSes s A c f) := by
    refine ⟨h.ok.u0, h.ok.u1, h.ok.u2, h.ok.u3, ?_, own_neq h.ok.o2 h.ok.o1 (by decide) hg, own_neq h.ok.o3 h.ok.o1 (by decide) hg, fun y hy => ?_, fun y hy => ⟨(h.ok.k2 y hy).u0, (h.ok.k2 y hy).u1⟩, fun y hy => ⟨(h.ok.k3 y hy).u0, (h.ok.k3 y hy).u1, own_neq (h.ok.k3 y hy).own h.ok.o1 (by decide) hg, (h.ok.k3 y hy).uc, (h.ok.k3 y hy).ut⟩⟩
    · unfold Go.Proofs.YtiildgoaiookhaaGreat.addSes
      dsimp only
      rw [thingsOf_append, thingsOf_one]
      exact ho
    · unfold Go.Proofs.YtiildgoaiookhaaGreat.addSes at hy
      rcases List.mem_append.1 hy with hy | hy
      · exact ⟨(h.ok.k1 y hy).u0, (h.ok.k1 y hy).u1, (h.ok.k1 y hy).u2, (h.ok.k1 y hy).u3⟩
      · simp only [List.mem_singleton] at hy
        subst hy; exact ⟨hf.1, hf.2.1, hf.2.2.1, hf.2.2.2⟩
  have z6 := h.oz.gr h.ok.o1 (by decide) (by decide) (by decide) hg
  refine ⟨⟨hb6.set_ 4 _, hr6.far (p := ⟨g, 4, none⟩) h.ne _, k6.farT hb6 (by decide) (by decide) (by decide) (by decide) _, z6.farT hb6 (by decide) (by decide) (by decide) _, h.ge, h.gk, h.ne, x6.setCell (p := ⟨g, 4, none⟩) (Nat.le_trans (Nat.le_add_right _ 2) h.ge) _, h.len⟩, (DFr.grown h.ok.o1 (by decide) (by decide) hg).trans (DFr.setCell hb6 (by decide) h.ge _)⟩
theorem RD.addOps {f : OV} (h : RD w0 w g k s x) (hf : I64 f.set ∧ I64 f.client) (hg : w.grownBy w6 (Value.slice s.A2 s.n2 s.c2).ownBlock) (ho : w6.ownsRow w0.heap.size 65 2 (.slice A (s.n2 + 1) c) (s.n2 + 1) (thingsOf s.ops ++ f.cells)) :
    RD w0 (w6.setCell ⟨g, 5, none⟩ (.slice A (s.n2 + 1) c)) g k (Go.Proofs.YtiildgoaiookhaaGreat.addOps s A c f) x ∧ DFr (w0.heap.size + 2) w (w6.setCell ⟨g, 5, none⟩ (.slice A (s.n2 + 1) c)) := by
  have hb6 := h.bs.grown hg (fun e => own_blk_ne h.ok.o2 h.bs (by decide) e.symm)
  have hr6 := h.bx.grown hg (fun e => own_blk_ne h.ok.o2 h.bx (by decide) e.symm)
  have x6 : Ext w0 w6 := Below.app h.ext hg h.ext.size h.ok.o2 (Nat.le_refl _)
  have k6 : OwnK w6 w0.heap.size (Go.Proofs.YtiildgoaiookhaaGreat.addOps s A c f) := by
    refine ⟨h.ok.u0, h.ok.u1, h.ok.u2, h.ok.u3, own_neq h.ok.o1 h.ok.o2 (by decide) hg, ?_, own_neq h.ok.o3 h.ok.o2 (by decide) hg, fun y hy => ⟨(h.ok.k1 y hy).u0, (h.ok.k1 y hy).u1, (h.ok.k1 y hy).u2, (h.ok.k1 y hy).u3⟩, fun y hy => ?_, fun y hy => ⟨(h.ok.k3 y hy).u0, (h.ok.k3 y hy).u1, own_neq (h.ok.k3 y hy).own h.ok.o2 (by decide) hg, (h.ok.k3 y hy).uc, (h.ok.k3 y hy).ut⟩⟩
    · unfold Go.Proofs.YtiildgoaiookhaaGreat.addOps
      dsimp only
      rw [thingsOf_append, thingsOf_one]
      exact ho
    · unfold Go.Proofs.YtiildgoaiookhaaGreat.addOps at hy
      rcases List.mem_append.1 hy with hy | hy
      · exact ⟨(h.ok.k2 y hy).u0, (h.ok.k2 y hy).u1⟩
      · simp only [List.mem_singleton] at hy
        subst hy; exact ⟨hf.1, hf.2⟩
  have z6 := h.oz.gr h.ok.o2 (by decide) (by decide) (by decide) hg
  refine ⟨⟨hb6.set_ 5 _, hr6.far (p := ⟨g, 5, none⟩) h.ne _, k6.farT hb6 (by decide) (by decide) (by decide) (by decide) _, z6.farT hb6 (by decide) (by decide) (by decide) _, h.ge, h.gk, h.ne, x6.setCell (p := ⟨g, 5, none⟩) (Nat.le_trans (Nat.le_add_right _ 2) h.ge) _, h.len⟩, (DFr.grown h.ok.o2 (by decide) (by decide) hg).trans (DFr.setCell hb6 (by decide) h.ge _)⟩
theorem RD.addSns {f : NV} (h : RD w0 w g k s x) (hf : OwnN w w0.heap.size f) (hg : w.grownBy w6 (Value.slice s.A3 s.n3 s.c3).ownBlock) (ho : w6.ownsRow w0.heap.size 70 5 (.slice A (s.n3 + 1) c) (s.n3 + 1) (thingsOf s.sns ++ f.cells)) :
    RE_ w0 (w6.setCell ⟨g, 6, none⟩ (.slice A (s.n3 + 1) c)) g k (Go.Proofs.YtiildgoaiookhaaGreat.addSns s A c f) x ∧ DFr (w0.heap.size + 2) w (w6.setCell ⟨g, 6, none⟩ (.slice A (s.n3 + 1) c)) := by
  have hb6 := h.bs.grown hg (fun e => own_blk_ne h.ok.o3 h.bs (by decide) e.symm)
  have hr6 := h.bx.grown hg (fun e => own_blk_ne h.ok.o3 h.bx (by decide) e.symm)
  have x6 : Ext w0 w6 := Below.app h.ext hg h.ext.size h.ok.o3 (Nat.le_refl _)
  have k6 : OwnK w6 w0.heap.size (Go.Proofs.YtiildgoaiookhaaGreat.addSns s A c f) := by
    refine ⟨h.ok.u0, h.ok.u1, h.ok.u2, h.ok.u3, own_neq h.ok.o1 h.ok.o3 (by decide) hg, own_neq h.ok.o2 h.ok.o3 (by decide) hg, ?_, fun y hy => ⟨(h.ok.k1 y hy).u0, (h.ok.k1 y hy).u1, (h.ok.k1 y hy).u2, (h.ok.k1 y hy).u3⟩, fun y hy => ⟨(h.ok.k2 y hy).u0, (h.ok.k2 y hy).u1⟩, fun y hy => ?_⟩
    · unfold Go.Proofs.YtiildgoaiookhaaGreat.addSns
      dsimp only
      rw [thingsOf_append, thingsOf_one]
      exact ho
    · unfold Go.Proofs.YtiildgoaiookhaaGreat.addSns at hy
      rcases List.mem_append.1 hy with hy | hy
      · exact ⟨(h.ok.k3 y hy).u0, (h.ok.k3 y hy).u1, own_neq (h.ok.k3 y hy).own h.ok.o3 (by decide) hg, (h.ok.k3 y hy).uc, (h.ok.k3 y hy).ut⟩
      · simp only [List.mem_singleton] at hy
        subst hy; exact ⟨hf.u0, hf.u1, own_neq hf.own h.ok.o3 (by decide) hg, hf.uc, hf.ut⟩
  have z6 := h.oz.gr h.ok.o3 (by decide) (by decide) (by decide) hg
  refine ⟨⟨hb6.set_ 6 _, hr6.far (p := ⟨g, 6, none⟩) h.ne _, k6.farT hb6 (by decide) (by decide) (by decide) (by decide) _, z6.farT hb6 (by decide) (by decide) (by decide) _, h.ge, h.gk, h.ne, x6.setCell (p := ⟨g, 6, none⟩) (Nat.le_trans (Nat.le_add_right _ 2) h.ge) _, by have := h.len; unfold Go.Proofs.YtiildgoaiookhaaGreat.addSns; simp; exact this⟩, (DFr.grown h.ok.o3 (by decide) (by decide) hg).trans (DFr.setCell hb6 (by decide) h.ge _)⟩
theorem RE_.addMore {f : WV} (h : RE_ w0 w g k s x) (hf : OwnR w w0.heap.size (.slice f.A f.len f.cap) f.l) (hfl : f.len = f.l.length) (hg : w.grownBy w6 (Value.slice x.A2 x.n2 x.c2).ownBlock) (ho : w6.ownsRow w0.heap.size 30 1 (.slice A (x.n2 + 1) c) (x.n2 + 1) (thingsOf x.sns ++ f.cells)) :
    RD w0 (w6.setCell ⟨k, 1, none⟩ (.slice A (x.n2 + 1) c)) g k s (Go.Proofs.YtiildgoaiookhaaGreat.addMore x A c f) ∧ DFr (w0.heap.size + 2) w (w6.setCell ⟨k, 1, none⟩ (.slice A (x.n2 + 1) c)) := by
  have hb6 := h.bs.grown hg (fun e => own_blk_ne h.oz.row h.bs (by decide) e.symm)
  have hr6 := h.bx.grown hg (fun e => own_blk_ne h.oz.row h.bx (by decide) e.symm)
  have x6 : Ext w0 w6 := Below.app h.ext hg h.ext.size h.oz.row (Nat.le_refl _)
  have hk := h.ok
  have k6 : OwnK w6 w0.heap.size s :=
    ⟨hk.u0, hk.u1, hk.u2, hk.u3, own_neq hk.o1 h.oz.row (by decide) hg, own_neq hk.o2 h.oz.row (by decide) hg, own_neq hk.o3 h.oz.row (by decide) hg, fun y hy => ⟨(hk.k1 y hy).u0, (hk.k1 y hy).u1, (hk.k1 y hy).u2, (hk.k1 y hy).u3⟩, fun y hy => ⟨(hk.k2 y hy).u0, (hk.k2 y hy).u1⟩,
      fun y hy => ⟨(hk.k3 y hy).u0, (hk.k3 y hy).u1, own_neq (hk.k3 y hy).own h.oz.row (by decide) hg, (hk.k3 y hy).uc, (hk.k3 y hy).ut⟩⟩
  have z6 : OwnZ w6 w0.heap.size (Go.Proofs.YtiildgoaiookhaaGreat.addMore x A c f) := by
    refine ⟨h.oz.top.gr h.oz.row (by decide) (by decide) hg, h.oz.n1, ?_, fun y hy => ?_⟩
    · unfold Go.Proofs.YtiildgoaiookhaaGreat.addMore
      dsimp only
      rw [thingsOf_append, thingsOf_one]
      exact ho
    · unfold Go.Proofs.YtiildgoaiookhaaGreat.addMore at hy
      rcases List.mem_append.1 hy with hy | hy
      · exact ⟨(h.oz.sn y hy).1.gr h.oz.row (by decide) (by decide) hg, (h.oz.sn y hy).2⟩
      · simp only [List.mem_singleton] at hy
        subst hy; exact ⟨hf.gr h.oz.row (by decide) (by decide) hg, hfl⟩
  refine ⟨⟨hb6.far (p := ⟨k, 1, none⟩) (fun e => h.ne e.symm) _, hr6.set_ 1 _, k6.farT hr6 (by decide) (by decide) (by decide) (by decide) _, z6.farT hr6 (by decide) (by decide) (by decide) _, h.ge, h.gk, h.ne, x6.setCell (p := ⟨k, 1, none⟩) (Nat.le_trans (Nat.le_add_right _ 2) h.gk) _, ?_⟩, (DFr.grown h.oz.row (by decide) (by decide) hg).trans (DFr.setCell hr6 (by decide) h.gk _)⟩
  have := h.len
  unfold Go.Proofs.YtiildgoaiookhaaGreat.addMore
  simp; exact this
end
end Go.Proofs.YtiildgoaiookhaaGreat

/- The document's Take: the quota and the later fields stored into the boxes. -/
namespace Go.Proofs.YtiildgoaiookhaaGreat
open Go.RowKit

def setTop (x : XV) (A : Option Addr) (c : Nat) (Q : List FV) : XV := ⟨A, Q.length, c, Q, x.A2, x.n2, x.c2, x.sns⟩
theorem RD.setQuota {w0 w : World} {g k : Nat} {s : KV} {x : XV} {m : Int} (h : RD w0 w g k s x) (hm : I64 m) :
    RD w0 (w.setCell ⟨g, 3, none⟩ (.int .i64 m)) g k (Go.Proofs.YtiildgoaiookhaaGreat.setQuota s m) x ∧ DFr (w0.heap.size + 2) w (w.setCell ⟨g, 3, none⟩ (.int .i64 m)) := by
  have q := h.ok.farT (i := 3) h.bs (by decide) (by decide) (by decide) (by decide) (.int .i64 m)
  exact ⟨⟨h.bs.set_ 3 _, h.bx.far (p := ⟨g, 3, none⟩) h.ne _, ⟨q.u0, q.u1, q.u2, hm, q.o1, q.o2, q.o3, q.k1, q.k2, q.k3⟩, h.oz.farT h.bs (by decide) (by decide) (by decide) _, h.ge, h.gk, h.ne, h.ext.setCell (p := ⟨g, 3, none⟩) (Nat.le_trans (Nat.le_add_right _ 2) h.ge) _, h.len⟩, DFr.setCell h.bs (by decide) h.ge _⟩
theorem RD.setTop {w0 w : World} {g k : Nat} {s : KV} {x : XV} {A : Option Addr} {c : Nat} {Q : List FV} (h : RD w0 w g k s x) (hQ : OwnR w w0.heap.size (.slice A Q.length c) Q) :
    RD w0 (w.setCell ⟨k, 0, none⟩ (.slice A Q.length c)) g k s (Go.Proofs.YtiildgoaiookhaaGreat.setTop x A c Q) ∧ DFr (w0.heap.size + 2) w (w.setCell ⟨k, 0, none⟩ (.slice A Q.length c)) := by
  have q := h.oz.farT (i := 0) h.bx (by decide) (by decide) (by decide) (.slice A Q.length c)
  exact ⟨⟨h.bs.far (p := ⟨k, 0, none⟩) (fun e => h.ne e.symm) _, h.bx.set_ 0 _, h.ok.farT h.bx (by decide) (by decide) (by decide) (by decide) _, ⟨hQ.far h.bx (by decide) (by decide) _, rfl, q.row, q.sn⟩, h.ge, h.gk, h.ne, h.ext.setCell (p := ⟨k, 0, none⟩) (Nat.le_trans (Nat.le_add_right _ 2) h.gk) _, h.len⟩, DFr.setCell h.bx (by decide) h.gk _⟩
/-- what was read, with the quota and the later fields -/
theorem dread_end {v : Int} {ms : List FV} {s : KV} {x : XV} {A : Option Addr} {c : Nat} (h : ms.foldl (dstep v) (dzero ms) = s.rk x.more) :
    (setQuota s (dnum (ms.filter (loB (topS v))) 7)).rk (Go.Proofs.YtiildgoaiookhaaGreat.setTop x A c (ms.filter fun f => !loB (topS v) f)).more = dread v ms := by
  unfold dread
  rw [h]
  rfl
end Go.Proofs.YtiildgoaiookhaaGreat

/- The walks of the reader's sess, open, number. (Printed by wip/tools/imread.py.) -/
namespace Go.Proofs.YtiildgoaiookhaaGreat
open Go.RowKit

theorem i64_wrap' (n : Int) : I64 (IntKind.i64.wrap n) := i64_wrap n
theorem rd_new2 (w : World) (a b : Value) (t : TypeId) : Rd (w.alloc (.cells #[a, b] t)) (some ⟨w.heap.size, 0, none⟩) 1 2 [a, b] := Rd.block w #[a, b] t 1 rfl

/-- what sess leaves -/
def SesPost (w0 : World) (g : Nat) (ver : Int) (s : KV) (x : XV) (l : List FV) (w : World) (e : Ending) (w' : World) : Prop :=
  e = .returned (.tuple #[]) ∧ ∃ A c, RS w0 w' g ver (addSes s A c (sesOf l)) x ∧ TFr w w'
theorem sesOf_snoc (l : List FV) (j : Nat) (h : j < l.length) : sesOf (l.take (j + 1)) = sesStep (sesOf (l.take j)) l[j] := fold_take _ _ l j h
set_option maxRecDepth 100000 in
set_option maxHeartbeats 3200000 in
theorem reader_sess (w0 : World) (g : Nat) (ver : Int) (s : KV) (x : XV) (A : Option Addr) (n c : Nat) (l : List FV) (w : World) (h : RS w0 w g ver s x) (hf : Fs w A n l) (hn : n ≤ 20000) (hs1 : s.n1 ≤ 20000) :
    Calls Tryz.prog 44 #[.pointer (some ⟨g, 0, none⟩), .slice A n c] w (SesPost w0 g ver s x l w) := by
  have HE : Hid (∀ (W : World) (e : Ending), SesPost w0 g ver s x l w e W ↔ e = .returned (.tuple #[]) ∧ ∃ A c, RS w0 W g ver (addSes s A c (sesOf l)) x ∧ TFr w W) := Lib.hid fun _ _ => Iff.rfl
  generalize SesPost w0 g ver s x l w = POST at *
  have hlen := hf.len
  have HSN := Lib.hid (sesOf_snoc l)
  have HZ : Hid (sesOf [] = ⟨0, 0, 0, 0⟩) := Lib.hid rfl
  have HRS := Lib.hid h
  have hgw : g < w.heap.size := h.blk.lt
  clear h
  have hX := Blk.new w 63 [.int .i64 0, .int .i64 0, .int .i64 0, .int .i64 0]
  have xw : Ext w (w.alloc (.cells #[.int .i64 0, .int .i64 0, .int .i64 0, .int .i64 0] 63)) := (Ext.refl w).alloc _
  go_enter Tryz.func44, Tryz.ntmps44
  go_upto_region 1 with fail
  generalize hgx : w.heap.size = gx at hX hgw ⊢
  generalize w.alloc (.cells #[.int .i64 0, .int .i64 0, .int .i64 0, .int .i64 0] 63) = W0 at *
  have hgxw : w.heap.size ≤ gx := by omega
  clear hgx
  have HX := Lib.hid hX
  have HXW := Lib.hid xw
  clear hX xw
  go_wp2_with fail
  go_loopw [9] (fun i wr => ∃ j : Nat, i = .int .i64 j ∧ j ≤ n ∧ (∃ X : CV, Blk wr gx 63 [.int .i64 X.client, .int .i64 X.seq, .int .i64 X.code, .int .i64 X.n] ∧ Hid (X = sesOf (l.take j)) ∧ (I64 X.client ∧ I64 X.seq ∧ I64 X.code ∧ I64 X.n)) ∧ Ext w wr) (fun i _ => n - (intOf i).toNat)
  case atStart => exact ⟨0, rfl, by omega, ⟨⟨0, 0, 0, 0⟩, HX.out, Lib.hid HZ.out.symm, ⟨by decide, by decide⟩, ⟨by decide, by decide⟩, ⟨by decide, by decide⟩, ⟨by decide, by decide⟩⟩, HXW.out⟩
  case round =>
    clear HX HXW
    obtain ⟨j, rfl, hj, ⟨X, hX, HXO, hXI⟩, hx⟩ := hrel
    by_cases hjn : j < n
    · have hjl : j < l.length := by omega
      obtain ⟨bb, off, rfl, e0, e1, e2, e3⟩ := (hf.ext hx).at_ hjn
      have Hsn := Lib.hid (HSN.out j hjl)
      generalize l[j] = f at *
      have hj0 : (0 : Int) ≤ j := by omega
      have hj1 : (j : Int) < n := by omega
      obtain ⟨num, wire, nn, fA, fl, fc, fb⟩ := f
      dsimp only at e0 e1 e2 e3
      have xb : Ext wr (wr.alloc (.cells #[.int .i64 num, .int .i64 wire, .int .u64 nn, .slice fA fl fc] 54)) := (Ext.refl wr).alloc _
      have hX2 := hX.ext xb
      have hw2 : I64 (IntKind.i64.wrap (nn : Int)) := i64_wrap _
      obtain ⟨m, hm⟩ : ∃ m, m = IntKind.i64.wrap (nn : Int) := ⟨_, rfl⟩
      rw [← hm] at hw2
      have Hm := Lib.hid hm
      have hm' : wrap64 (nn : Int) = m := (wrap64_eq _).trans hm.symm
      have HWI := Lib.hid hw2
      have HXI := Lib.hid hXI
      have HXX := Lib.hid (hx.trans xb)
      have hbx : w.heap.size ≤ gx := hgxw
      have P1 := Lib.hid (show ((j : Int) + 1) = ((j + 1 : Nat) : Int) by omega)
      clear hm hw2 hXI hX xb
      by_cases h1 : num = 1
      · subst h1
        have x0 := hX2.cell 0
        have x1 := hX2.cell 1
        have x2 := hX2.cell 2
        have x3 := hX2.cell 3
        simp only [List.getElem?_cons_zero, List.getElem?_cons_succ] at x0 x1 x2 x3
        have z0 := hX2.frozen 0
        have z1 := hX2.frozen 1
        have z2 := hX2.frozen 2
        have z3 := hX2.frozen 3
        have HB := Lib.hid hX2
        clear hX2
        go_wp2_with fail
        clear hm'
        go_roundw
        case rel => exact ⟨j + 1, val_int (by omega), by omega, ⟨⟨m, X.seq, X.code, X.n⟩, HB.out.set_ 0 _, Lib.hid (by rw [Hsn.out, ← HXO.out]; simp [sesStep, ← Hm.out]), HWI.out, HXI.out.2.1, HXI.out.2.2.1, HXI.out.2.2.2⟩, HXX.out.setCell (p := ⟨gx, 0, none⟩) hbx _⟩
        case measure => simp [intOf]; omega
      have H1 := Lib.hid h1
      have g1 := beq_f h1
      clear h1
      by_cases h2 : num = 2
      · subst h2
        have x0 := hX2.cell 0
        have x1 := hX2.cell 1
        have x2 := hX2.cell 2
        have x3 := hX2.cell 3
        simp only [List.getElem?_cons_zero, List.getElem?_cons_succ] at x0 x1 x2 x3
        have z0 := hX2.frozen 0
        have z1 := hX2.frozen 1
        have z2 := hX2.frozen 2
        have z3 := hX2.frozen 3
        have HB := Lib.hid hX2
        clear hX2
        go_wp2_with fail
        clear hm'
        go_roundw
        case rel => exact ⟨j + 1, val_int (by omega), by omega, ⟨⟨X.client, m, X.code, X.n⟩, HB.out.set_ 1 _, Lib.hid (by rw [Hsn.out, ← HXO.out]; simp [sesStep, ← Hm.out]), HXI.out.1, HWI.out, HXI.out.2.2.1, HXI.out.2.2.2⟩, HXX.out.setCell (p := ⟨gx, 1, none⟩) hbx _⟩
        case measure => simp [intOf]; omega
      have H2 := Lib.hid h2
      have g2 := beq_f h2
      clear h2
      by_cases h3 : num = 3
      · subst h3
        have x0 := hX2.cell 0
        have x1 := hX2.cell 1
        have x2 := hX2.cell 2
        have x3 := hX2.cell 3
        simp only [List.getElem?_cons_zero, List.getElem?_cons_succ] at x0 x1 x2 x3
        have z0 := hX2.frozen 0
        have z1 := hX2.frozen 1
        have z2 := hX2.frozen 2
        have z3 := hX2.frozen 3
        have HB := Lib.hid hX2
        clear hX2
        go_wp2_with fail
        clear hm'
        go_roundw
        case rel => exact ⟨j + 1, val_int (by omega), by omega, ⟨⟨X.client, X.seq, m, X.n⟩, HB.out.set_ 2 _, Lib.hid (by rw [Hsn.out, ← HXO.out]; simp [sesStep, ← Hm.out]), HXI.out.1, HXI.out.2.1, HWI.out, HXI.out.2.2.2⟩, HXX.out.setCell (p := ⟨gx, 2, none⟩) hbx _⟩
        case measure => simp [intOf]; omega
      have H3 := Lib.hid h3
      have g3 := beq_f h3
      clear h3
      by_cases h4 : num = 4
      · subst h4
        have x0 := hX2.cell 0
        have x1 := hX2.cell 1
        have x2 := hX2.cell 2
        have x3 := hX2.cell 3
        simp only [List.getElem?_cons_zero, List.getElem?_cons_succ] at x0 x1 x2 x3
        have z0 := hX2.frozen 0
        have z1 := hX2.frozen 1
        have z2 := hX2.frozen 2
        have z3 := hX2.frozen 3
        have HB := Lib.hid hX2
        clear hX2
        go_wp2_with fail
        clear hm'
        go_roundw
        case rel => exact ⟨j + 1, val_int (by omega), by omega, ⟨⟨X.client, X.seq, X.code, m⟩, HB.out.set_ 3 _, Lib.hid (by rw [Hsn.out, ← HXO.out]; simp [sesStep, ← Hm.out]), HXI.out.1, HXI.out.2.1, HXI.out.2.2.1, HWI.out⟩, HXX.out.setCell (p := ⟨gx, 3, none⟩) hbx _⟩
        case measure => simp [intOf]; omega
      have H4 := Lib.hid h4
      have g4 := beq_f h4
      clear h4
      have HB := Lib.hid hX2
      clear hX2
      go_wp2_with fail
      clear hm'
      go_roundw
      case rel => exact ⟨j + 1, val_int (by omega), by omega, ⟨X, HB.out, Lib.hid (by rw [Hsn.out, ← HXO.out]; simp [sesStep, H1.out, H2.out, H3.out, H4.out]), HXI.out.1, HXI.out.2.1, HXI.out.2.2.1, HXI.out.2.2.2⟩, HXX.out⟩
      case measure => simp [intOf]; omega
    · obtain rfl : n = j := by omega
      have HXL : Hid (X = sesOf l) := Lib.hid (by rw [HXO.out, List.take_of_length_le (by omega)])
      have HSW := Lib.hid (HRS.out.to hx)
      have HXB := Lib.hid hX
      have HTX := Lib.hid (TFr.of_ext hx)
      have o5 := HSW.out.blk.cell 5
      have x0 := hX.cell 0
      have x1 := hX.cell 1
      have x2 := hX.cell 2
      have x3 := hX.cell 3
      simp only [List.getElem?_cons_zero, List.getElem?_cons_succ] at x0 x1 x2 x3
      simp only [List.getElem?_cons_zero, List.getElem?_cons_succ] at o5
      have hszr := HSW.out.ext.size
      have o5' := Ext.cell (((Ext.refl wr).alloc (.cells #[.int .i64 X.client, .int .i64 X.seq, .int .i64 X.code, .int .i64 X.n] 63)).drew) o5
      have o5'' := Ext.cell ((Ext.refl wr).alloc (.cells #[.int .i64 X.client, .int .i64 X.seq, .int .i64 X.code, .int .i64 X.n] 63)) o5
      clear HXO hX hx HSN HZ HRS
      go_upto_region 14 with fail
      go_region_law (refine step_app sessT (by omega) _ rfl rfl (by simp [Act.eval]) (own_ext HSW.out.ok.o1 (by first | exact ((Ext.refl _).alloc _).drew | exact ((Ext.refl _).drew).alloc _)) (by simp [Act.eval]; first | rfl | exact ⟨rfl, rfl, rfl⟩) (by first | exact Rd.ext (rd_new4 _ _ _ _ _ _) (Ext.refl _).drew | exact rd_new4 _ _ _ _ _ _) (Thing.one (X : CV)) (by unfold maxLen; omega) (by omega) (by simp; omega) ?_; intro v6 w6 hown6 hg6 hat6; obtain ⟨A6, c6, rfl, _⟩ := own_form hown6; have xq6 := ext_at (w := wr) hg6 (by first | exact ((Ext.refl _).alloc _).drew | exact ((Ext.refl _).drew).alloc _); have hS6 := HSW.out.to xq6; have hb6 := hS6.gr hS6.ok.o1 (by decide) hg6; have e6 := hb6.cell 5; have z6 := hb6.frozen 5; simp only [List.getElem?_cons_zero, List.getElem?_cons_succ] at e6)
      all_goals
        have HADD := Lib.hid (hS6.addSes (f := X) hXI hg6 hown6)
        have HT6 := Lib.hid (HTX.out.trans ((TFr.of_ext xq6).trans HADD.out.2))
        clear xq6 hS6 hb6 hg6 hown6 hat6 e6 z6 o5 o5' o5'' x0 x1 x2 x3
        go_wp2_with fail
        go_end0
        exact (HE.out _ _).2 ⟨rfl, A6, c6, by rw [← HXL.out]; exact HADD.out.1, HT6.out⟩

/-- what open leaves -/
def OpnPost (w0 : World) (g : Nat) (ver : Int) (s : KV) (x : XV) (l : List FV) (w : World) (e : Ending) (w' : World) : Prop :=
  e = .returned (.tuple #[]) ∧ ∃ A c, RS w0 w' g ver (addOps s A c (opnOf l)) x ∧ TFr w w'
theorem opnOf_snoc (l : List FV) (j : Nat) (h : j < l.length) : opnOf (l.take (j + 1)) = opnStep (opnOf (l.take j)) l[j] := fold_take _ _ l j h
set_option maxRecDepth 100000 in
set_option maxHeartbeats 3200000 in
theorem reader_open (w0 : World) (g : Nat) (ver : Int) (s : KV) (x : XV) (A : Option Addr) (n c : Nat) (l : List FV) (w : World) (h : RS w0 w g ver s x) (hf : Fs w A n l) (hn : n ≤ 20000) (hs1 : s.n2 ≤ 20000) :
    Calls Tryz.prog 45 #[.pointer (some ⟨g, 0, none⟩), .slice A n c] w (OpnPost w0 g ver s x l w) := by
  have HE : Hid (∀ (W : World) (e : Ending), OpnPost w0 g ver s x l w e W ↔ e = .returned (.tuple #[]) ∧ ∃ A c, RS w0 W g ver (addOps s A c (opnOf l)) x ∧ TFr w W) := Lib.hid fun _ _ => Iff.rfl
  generalize OpnPost w0 g ver s x l w = POST at *
  have hlen := hf.len
  have HSN := Lib.hid (opnOf_snoc l)
  have HZ : Hid (opnOf [] = ⟨0, 0⟩) := Lib.hid rfl
  have HRS := Lib.hid h
  have hgw : g < w.heap.size := h.blk.lt
  clear h
  have hX := Blk.new w 65 [.int .i64 0, .int .i64 0]
  have xw : Ext w (w.alloc (.cells #[.int .i64 0, .int .i64 0] 65)) := (Ext.refl w).alloc _
  go_enter Tryz.func45, Tryz.ntmps45
  go_upto_region 1 with fail
  generalize hgx : w.heap.size = gx at hX hgw ⊢
  generalize w.alloc (.cells #[.int .i64 0, .int .i64 0] 65) = W0 at *
  have hgxw : w.heap.size ≤ gx := by omega
  clear hgx
  have HX := Lib.hid hX
  have HXW := Lib.hid xw
  clear hX xw
  go_wp2_with fail
  go_loopw [9] (fun i wr => ∃ j : Nat, i = .int .i64 j ∧ j ≤ n ∧ (∃ X : OV, Blk wr gx 65 [.int .i64 X.set, .int .i64 X.client] ∧ Hid (X = opnOf (l.take j)) ∧ (I64 X.set ∧ I64 X.client)) ∧ Ext w wr) (fun i _ => n - (intOf i).toNat)
  case atStart => exact ⟨0, rfl, by omega, ⟨⟨0, 0⟩, HX.out, Lib.hid HZ.out.symm, ⟨by decide, by decide⟩, ⟨by decide, by decide⟩⟩, HXW.out⟩
  case round =>
    clear HX HXW
    obtain ⟨j, rfl, hj, ⟨X, hX, HXO, hXI⟩, hx⟩ := hrel
    by_cases hjn : j < n
    · have hjl : j < l.length := by omega
      obtain ⟨bb, off, rfl, e0, e1, e2, e3⟩ := (hf.ext hx).at_ hjn
      have Hsn := Lib.hid (HSN.out j hjl)
      generalize l[j] = f at *
      have hj0 : (0 : Int) ≤ j := by omega
      have hj1 : (j : Int) < n := by omega
      obtain ⟨num, wire, nn, fA, fl, fc, fb⟩ := f
      dsimp only at e0 e1 e2 e3
      have xb : Ext wr (wr.alloc (.cells #[.int .i64 num, .int .i64 wire, .int .u64 nn, .slice fA fl fc] 54)) := (Ext.refl wr).alloc _
      have hX2 := hX.ext xb
      have hw2 : I64 (IntKind.i64.wrap (nn : Int)) := i64_wrap _
      obtain ⟨m, hm⟩ : ∃ m, m = IntKind.i64.wrap (nn : Int) := ⟨_, rfl⟩
      rw [← hm] at hw2
      have Hm := Lib.hid hm
      have hm' : wrap64 (nn : Int) = m := (wrap64_eq _).trans hm.symm
      have HWI := Lib.hid hw2
      have HXI := Lib.hid hXI
      have HXX := Lib.hid (hx.trans xb)
      have hbx : w.heap.size ≤ gx := hgxw
      have P1 := Lib.hid (show ((j : Int) + 1) = ((j + 1 : Nat) : Int) by omega)
      clear hm hw2 hXI hX xb
      by_cases h1 : num = 1
      · subst h1
        have x0 := hX2.cell 0
        have x1 := hX2.cell 1
        simp only [List.getElem?_cons_zero, List.getElem?_cons_succ] at x0 x1
        have z0 := hX2.frozen 0
        have z1 := hX2.frozen 1
        have HB := Lib.hid hX2
        clear hX2
        go_wp2_with fail
        clear hm'
        go_roundw
        case rel => exact ⟨j + 1, val_int (by omega), by omega, ⟨⟨m, X.client⟩, HB.out.set_ 0 _, Lib.hid (by rw [Hsn.out, ← HXO.out]; simp [opnStep, ← Hm.out]), HWI.out, HXI.out.2⟩, HXX.out.setCell (p := ⟨gx, 0, none⟩) hbx _⟩
        case measure => simp [intOf]; omega
      have H1 := Lib.hid h1
      have g1 := beq_f h1
      clear h1
      by_cases h2 : num = 2
      · subst h2
        have x0 := hX2.cell 0
        have x1 := hX2.cell 1
        simp only [List.getElem?_cons_zero, List.getElem?_cons_succ] at x0 x1
        have z0 := hX2.frozen 0
        have z1 := hX2.frozen 1
        have HB := Lib.hid hX2
        clear hX2
        go_wp2_with fail
        clear hm'
        go_roundw
        case rel => exact ⟨j + 1, val_int (by omega), by omega, ⟨⟨X.set, m⟩, HB.out.set_ 1 _, Lib.hid (by rw [Hsn.out, ← HXO.out]; simp [opnStep, ← Hm.out]), HXI.out.1, HWI.out⟩, HXX.out.setCell (p := ⟨gx, 1, none⟩) hbx _⟩
        case measure => simp [intOf]; omega
      have H2 := Lib.hid h2
      have g2 := beq_f h2
      clear h2
      have HB := Lib.hid hX2
      clear hX2
      go_wp2_with fail
      clear hm'
      go_roundw
      case rel => exact ⟨j + 1, val_int (by omega), by omega, ⟨X, HB.out, Lib.hid (by rw [Hsn.out, ← HXO.out]; simp [opnStep, H1.out, H2.out]), HXI.out.1, HXI.out.2⟩, HXX.out⟩
      case measure => simp [intOf]; omega
    · obtain rfl : n = j := by omega
      have HXL : Hid (X = opnOf l) := Lib.hid (by rw [HXO.out, List.take_of_length_le (by omega)])
      have HSW := Lib.hid (HRS.out.to hx)
      have HXB := Lib.hid hX
      have HTX := Lib.hid (TFr.of_ext hx)
      have o5 := HSW.out.blk.cell 6
      have x0 := hX.cell 0
      have x1 := hX.cell 1
      simp only [List.getElem?_cons_zero, List.getElem?_cons_succ] at x0 x1
      simp only [List.getElem?_cons_zero, List.getElem?_cons_succ] at o5
      have hszr := HSW.out.ext.size
      have o5' := Ext.cell (((Ext.refl wr).alloc (.cells #[.int .i64 X.set, .int .i64 X.client] 65)).drew) o5
      have o5'' := Ext.cell ((Ext.refl wr).alloc (.cells #[.int .i64 X.set, .int .i64 X.client] 65)) o5
      clear HXO hX hx HSN HZ HRS
      go_upto_region 10 with fail
      go_region_law (refine step_app opensT (by omega) _ rfl rfl (by simp [Act.eval]) (own_ext HSW.out.ok.o2 (by first | exact ((Ext.refl _).alloc _).drew | exact ((Ext.refl _).drew).alloc _)) (by simp [Act.eval]; first | rfl | exact ⟨rfl, rfl, rfl⟩) (by first | exact Rd.ext (rd_new2 _ _ _ _) (Ext.refl _).drew | exact rd_new2 _ _ _ _) (Thing.one (X : OV)) (by unfold maxLen; omega) (by omega) (by simp; omega) ?_; intro v6 w6 hown6 hg6 hat6; obtain ⟨A6, c6, rfl, _⟩ := own_form hown6; have xq6 := ext_at (w := wr) hg6 (by first | exact ((Ext.refl _).alloc _).drew | exact ((Ext.refl _).drew).alloc _); have hS6 := HSW.out.to xq6; have hb6 := hS6.gr hS6.ok.o2 (by decide) hg6; have e6 := hb6.cell 6; have z6 := hb6.frozen 6; simp only [List.getElem?_cons_zero, List.getElem?_cons_succ] at e6)
      all_goals
        have HADD := Lib.hid (hS6.addOps (f := X) hXI hg6 hown6)
        have HT6 := Lib.hid (HTX.out.trans ((TFr.of_ext xq6).trans HADD.out.2))
        clear xq6 hS6 hb6 hg6 hown6 hat6 e6 z6 o5 o5' o5'' x0 x1
        go_wp2_with fail
        go_end0
        exact (HE.out _ _).2 ⟨rfl, A6, c6, by rw [← HXL.out]; exact HADD.out.1, HT6.out⟩

/-- a number of a catalogue -/
def numK (s : KV) (f : FV) : KV := if f.num = 1 then setVer s (IntKind.i64.wrap f.n) else if f.num = 2 then setNext s (IntKind.i64.wrap f.n) else if f.num = 3 then setKeep s (IntKind.i64.wrap f.n) else if f.num = 7 then setQuota s (IntKind.i64.wrap f.n) else s
/-- what number leaves -/
def NumPost (w0 : World) (g : Nat) (ver : Int) (s : KV) (x : XV) (f : FV) (w : World) (e : Ending) (w' : World) : Prop := e = .returned (.tuple #[]) ∧ RS w0 w' g ver (numK s f) x ∧ TFr w w'
set_option maxRecDepth 100000 in
set_option maxHeartbeats 3200000 in
theorem reader_number (w0 : World) (g : Nat) (ver : Int) (s : KV) (x : XV) (f : FV) (w : World) (h : RS w0 w g ver s x) :
    Calls Tryz.prog 47 #[.pointer (some ⟨g, 0, none⟩), f.val] w (NumPost w0 g ver s x f w) := by
  have HE : Hid (∀ (W : World) (e : Ending), NumPost w0 g ver s x f w e W ↔ e = .returned (.tuple #[]) ∧ RS w0 W g ver (numK s f) x ∧ TFr w W) := Lib.hid fun _ _ => Iff.rfl
  have HNK : Hid (numK s f = if f.num = 1 then setVer s (IntKind.i64.wrap f.n) else if f.num = 2 then setNext s (IntKind.i64.wrap f.n) else if f.num = 3 then setKeep s (IntKind.i64.wrap f.n) else if f.num = 7 then setQuota s (IntKind.i64.wrap f.n) else s) := Lib.hid rfl
  generalize NumPost w0 g ver s x f w = POST at *
  generalize numK s f = NK at *
  have hgw : g < w.heap.size := h.blk.lt
  unfold FV.val
  obtain ⟨num, wire, nn, fA, fl, fc, fb⟩ := f
  dsimp only at HNK ⊢
  have xb : Ext w (w.alloc (.cells #[.int .i64 num, .int .i64 wire, .int .u64 nn, .slice fA fl fc] 54)) := (Ext.refl w).alloc _
  have hB := Blk.new w 54 [.int .i64 num, .int .i64 wire, .int .u64 nn, .slice fA fl fc]
  have h2 := h.to xb
  have hw2 : I64 (IntKind.i64.wrap (nn : Int)) := i64_wrap _
  obtain ⟨m, hm⟩ : ∃ m, m = IntKind.i64.wrap (nn : Int) := ⟨_, rfl⟩
  rw [← hm] at hw2 HNK
  have hm' : wrap64 (nn : Int) = m := (wrap64_eq _).trans hm.symm
  have HW := Lib.hid hw2
  have HT := Lib.hid (TFr.of_ext xb)
  have HS := Lib.hid h2
  clear hm hw2 h xb h2
  go_enter Tryz.func47, Tryz.ntmps47
  go_upto_region 1 with fail
  generalize hgx : w.heap.size = gx at hB hgw ⊢
  generalize w.alloc (.cells #[.int .i64 num, .int .i64 wire, .int .u64 nn, .slice fA fl fc] 54) = W0 at *
  have f0 := hB.cell 0
  have f2 := hB.cell 2
  simp only [List.getElem?_cons_zero, List.getElem?_cons_succ] at f0 f2
  by_cases h1 : num = 1
  · subst h1
    have HNQ : Hid (NK = setVer s m) := Lib.hid (by rw [HNK.out]; simp)
    have c1 := HS.out.blk.cell 1
    have z1 := HS.out.blk.frozen 1
    simp only [List.getElem?_cons_zero, List.getElem?_cons_succ] at c1
    clear HNK hB
    go_wp2_with fail
    clear hm' c1 z1
    go_end0
    exact (HE.out _ _).2 ⟨rfl, by rw [HNQ.out]; exact HS.out.setVer HW.out, HT.out.trans (TFr.setCell HS.out.blk (by decide) _)⟩
  have H1 := Lib.hid h1
  have g1 := beq_f h1
  clear h1
  by_cases h2 : num = 2
  · subst h2
    have HNQ : Hid (NK = setNext s m) := Lib.hid (by rw [HNK.out]; simp)
    have c1 := HS.out.blk.cell 2
    have z1 := HS.out.blk.frozen 2
    simp only [List.getElem?_cons_zero, List.getElem?_cons_succ] at c1
    clear HNK hB
    go_wp2_with fail
    clear hm' c1 z1
    go_end0
    exact (HE.out _ _).2 ⟨rfl, by rw [HNQ.out]; exact HS.out.setNext HW.out, HT.out.trans (TFr.setCell HS.out.blk (by decide) _)⟩
  have H2 := Lib.hid h2
  have g2 := beq_f h2
  clear h2
  by_cases h3 : num = 3
  · subst h3
    have HNQ : Hid (NK = setKeep s m) := Lib.hid (by rw [HNK.out]; simp)
    have c1 := HS.out.blk.cell 3
    have z1 := HS.out.blk.frozen 3
    simp only [List.getElem?_cons_zero, List.getElem?_cons_succ] at c1
    clear HNK hB
    go_wp2_with fail
    clear hm' c1 z1
    go_end0
    exact (HE.out _ _).2 ⟨rfl, by rw [HNQ.out]; exact HS.out.setKeep HW.out, HT.out.trans (TFr.setCell HS.out.blk (by decide) _)⟩
  have H3 := Lib.hid h3
  have g3 := beq_f h3
  clear h3
  by_cases h7 : num = 7
  · subst h7
    have HNQ : Hid (NK = setQuota s m) := Lib.hid (by rw [HNK.out]; simp)
    have c1 := HS.out.blk.cell 4
    have z1 := HS.out.blk.frozen 4
    simp only [List.getElem?_cons_zero, List.getElem?_cons_succ] at c1
    clear HNK hB
    go_wp2_with fail
    clear hm' c1 z1
    go_end0
    exact (HE.out _ _).2 ⟨rfl, by rw [HNQ.out]; exact HS.out.setQuota HW.out, HT.out.trans (TFr.setCell HS.out.blk (by decide) _)⟩
  have H7 := Lib.hid h7
  have g7 := beq_f h7
  clear h7
  have HNQ : Hid (NK = s) := Lib.hid (by rw [HNK.out, if_neg H1.out, if_neg H2.out, if_neg H3.out, if_neg H7.out])
  clear HNK hB
  go_wp2_with fail
  clear hm'
  go_end0
  exact (HE.out _ _).2 ⟨rfl, by rw [HNQ.out]; exact HS.out, HT.out⟩
end Go.Proofs.YtiildgoaiookhaaGreat

/- The walk of coracleref10.SameRest. -/
namespace Go.Proofs.YtiildgoaiookhaaGreat
open Go.RowKit

theorem restEq_no {m n : List (List FV)} {a b : List FV} {j : Nat} (h : fsEq (ofM m j) (ofM n j) = false) (hj : j < max m.length n.length) : restEq m n a b = false := by
  unfold restEq
  rw [Bool.and_eq_false_iff]
  right
  rw [List.all_eq_false]
  exact ⟨j, List.mem_range.2 hj, by rw [h]; simp⟩
theorem restEq_yes {m n : List (List FV)} {a b : List FV} (h0 : fsEq a b = true) (h : ∀ j, j < max m.length n.length → fsEq (ofM m j) (ofM n j) = true) : restEq m n a b = true := by
  unfold restEq
  rw [h0, Bool.true_and, List.all_eq_true]
  exact fun j hj => h j (List.mem_range.1 hj)
set_option maxRecDepth 100000 in
set_option maxHeartbeats 3200000 in
theorem ref10_SameRest (x y : XV) (b : Bool) (hb : restEq x.more y.more x.top y.top = b) (w : World) (hx : x.Ok w) (hy : y.Ok w) (fx : x.Few) (fy : y.Few) :
    Calls Tryz.prog 9 #[x.val, y.val] w fun e w' => e = .returned (.bool b) ∧ Ext w w' := by
  have hmx : x.more.length = x.n2 := by unfold XV.more; rw [List.length_map]; exact hx.t2.len
  have hmy : y.more.length = y.n2 := by unfold XV.more; rw [List.length_map]; exact hy.t2.len
  have hx2 := fx.n2
  have hy2 := fy.n2
  have HNO := Lib.hid (fun j (h : fsEq (ofM x.more j) (ofM y.more j) = false) (hj : j < max x.n2 y.n2) => hb.symm.trans (restEq_no (a := x.top) (b := y.top) h (by rw [hmx, hmy]; exact hj)))
  have HNT : Hid (fsEq x.top y.top = false → b = false) := Lib.hid (fun h => by rw [← hb]; unfold restEq; rw [h]; rfl)
  have HYE := Lib.hid (fun (h0 : fsEq x.top y.top = true) (h : ∀ j, j < max x.n2 y.n2 → fsEq (ofM x.more j) (ofM y.more j) = true) => hb.symm.trans (restEq_yes h0 (by rw [hmx, hmy]; exact h)))
  have HTS := Lib.hid (fun (q : Bool) (hq : fsEq x.top y.top = q) (W : World) (h : Ext w W) => ref03_SameB x.A1 y.A1 x.n1 y.n1 x.c1 y.c1 x.top y.top q hq W (hx.t1.ext h) (hy.t1.ext h) (by have := fx.n1; omega) (by have := fy.n1; omega))
  have HOX := Lib.hid (fun (j : Nat) (W : World) (h : Ext w W) => ref10_Of x j W (hx.ext h) fx)
  have HOY := Lib.hid (fun (j : Nat) (W : World) (h : Ext w W) => ref10_Of y j W (hy.ext h) fy)
  have hBx := (Blk.new w 33 [.slice x.A1 x.n1 x.c1, .slice x.A2 x.n2 x.c2]).alloc (.cells #[.slice y.A1 y.n1 y.c1, .slice y.A2 y.n2 y.c2] 33)
  have hBy := Blk.new (w.alloc (.cells #[.slice x.A1 x.n1 x.c1, .slice x.A2 x.n2 x.c2] 33)) 33 [.slice y.A1 y.n1 y.c1, .slice y.A2 y.n2 y.c2]
  have xw : Ext w ((w.alloc (.cells #[.slice x.A1 x.n1 x.c1, .slice x.A2 x.n2 x.c2] 33)).alloc (.cells #[.slice y.A1 y.n1 y.c1, .slice y.A2 y.n2 y.c2] 33)) := ((Ext.refl w).alloc _).alloc _
  rw [show (w.alloc (.cells #[.slice x.A1 x.n1 x.c1, .slice x.A2 x.n2 x.c2] 33)).heap.size = w.heap.size + 1 by simp] at hBy
  unfold OfPost at HOX HOY
  unfold XV.val at HOX HOY ⊢
  clear hx hy fx fy hb hmx hmy
  go_enter Tryz.func9, Tryz.ntmps9
  go_upto_region 1 with fail
  generalize ((w.alloc (.cells #[.slice x.A1 x.n1 x.c1, .slice x.A2 x.n2 x.c2] 33)).alloc (.cells #[.slice y.A1 y.n1 y.c1, .slice y.A2 y.n2 y.c2] 33)) = W0 at *
  have x0 := hBx.cell 0
  have y0 := hBy.cell 0
  simp only [List.getElem?_cons_zero] at x0 y0
  rcases ht : fsEq x.top y.top with _ | _
  case false =>
    have HT := Lib.hid (HTS.out false ht W0 xw)
    have hbf : b = false := HNT.out ht
    subst hbf
    clear ht HTS hBx hBy HNO HYE HNT HOX HOY
    go_wp2_with fail
    refine HT.out.mono ?_
    rintro e w1 ⟨rfl, x1⟩
    go_wp2_with fail
    go_ret
    exact ⟨rfl, xw.trans x1⟩
  case true =>
    have HT := Lib.hid (HTS.out true ht W0 xw)
    have HY2 := Lib.hid (HYE.out ht)
    clear ht HTS HNT HYE
    go_wp2_with fail
    refine HT.out.mono ?_
    rintro e w1 ⟨rfl, x1⟩
    replace hBx := hBx.ext x1
    replace hBy := hBy.ext x1
    replace xw := xw.trans x1
    clear x0 y0 HT x1
    have HBX := Lib.hid hBx
    have HBY := Lib.hid hBy
    have HXW := Lib.hid xw
    clear hBx hBy xw
    go_wp2_with fail
    go_loopw [6] (fun i wr => ∃ j : Nat, i = .int .i64 j ∧ j ≤ max x.n2 y.n2 ∧ Hid (∀ k, k < j → fsEq (ofM x.more k) (ofM y.more k) = true) ∧ Ext w1 wr) (fun i _ => max x.n2 y.n2 - (intOf i).toNat)
    case atStart => exact ⟨0, rfl, by omega, Lib.hid (fun k hk => by omega), Ext.refl w1⟩
    case round =>
      obtain ⟨j, rfl, hj, HJ, hx⟩ := hrel
      have x0 := (HBX.out.ext hx).cell 0
      have x1 := (HBX.out.ext hx).cell 1
      have y0 := (HBY.out.ext hx).cell 0
      have y1 := (HBY.out.ext hx).cell 1
      simp only [List.getElem?_cons_zero, List.getElem?_cons_succ] at x0 x1 y0 y1
      have HW := Lib.hid (HXW.out.trans hx)
      by_cases hjm : j < max x.n2 y.n2
      · have HD := Lib.hid (HOX.out j wr.drew (HW.out.trans (Ext.refl wr).drew))
        have HOY2 := Lib.hid (fun (W : World) (h : Ext wr W) => HOY.out j W (HW.out.trans h))
        have HNJ := Lib.hid (fun h => HNO.out j h hjm)
        generalize hox : ofM x.more j = ox at *
        generalize hoy : ofM y.more j = oy at *
        have HOE := Lib.hid (And.intro hox hoy)
        clear hox hoy HOX HOY HNO
        have hcase : (j < x.n2) ∨ (¬ j < x.n2 ∧ j < y.n2) := by omega
        have hjb : j ≤ 18000 := by omega
        go_upto_region 5 with fail
        go_cut [26] (fun s wx => s = .bool true ∧ wr = wx)
        case first =>
          rcases hcase with h1 | ⟨h1, h2⟩
          · have h1' : (j : Int) < x.n2 := by omega
            go_wp2_with fail
            go_meet
            exact ⟨rfl, rfl⟩
          · have h1' : ¬ (j : Int) < x.n2 := by omega
            have h2' : (j : Int) < y.n2 := by omega
            go_wp2_with fail
            go_meet
            exact ⟨rfl, rfl⟩
        case rest =>
          obtain ⟨rfl, rfl⟩ := hcut
          clear hcase
          go_upto_region 7 with fail
          go_region_held3 (fun w' => w'.cell? ⟨w.heap.size, 0, none⟩ = some (.slice x.A1 x.n1 x.c1) ∧ w'.cell? ⟨w.heap.size, 1, none⟩ = some (.slice x.A2 x.n2 x.c2) ∧ w'.cell? ⟨w.heap.size + 1, 0, none⟩ = some (.slice y.A1 y.n1 y.c1) ∧ w'.cell? ⟨w.heap.size + 1, 1, none⟩ = some (.slice y.A2 y.n2 y.c2))
            (first | go_keep | (exact ⟨z7.cell x0, z7.cell x1, z7.cell y0, z7.cell y1⟩) | (exact ⟨z6.cell x0, z6.cell x1, z6.cell y0, z6.cell y1⟩) | (exact ⟨z5.cell x0, z5.cell x1, z5.cell y0, z5.cell y1⟩))
            (first
              | (go_at_call_of 27 (Value.agg #[Value.slice x.A1 x.n1 x.c1, Value.slice x.A2 x.n2 x.c2]); refine HD.out.mono ?_; rintro e w5 ⟨A5, n5, c5, rfl, hf5, hn5, z5'⟩; have z5 : Ext wr w5 := ((Ext.refl wr).drew).trans z5')
              | (go_at_call_of 27 (Value.agg #[Value.slice y.A1 y.n1 y.c1, Value.slice y.A2 y.n2 y.c2]); refine (HOY2.out _ z5).mono ?_; rintro e w6 ⟨A6, n6, c6, rfl, hf6, hn6, z6'⟩; have z6 : Ext wr w6 := z5.trans z6')
              | (go_at_call 26; refine (ref03_SameB A5 A6 n5 n6 c5 c6 ox oy _ rfl _ ((hf5.ext z5').ext z6') (hf6.ext z6') (by omega) (by omega)).mono ?_; rintro e w7 ⟨rfl, z7'⟩; have z7 : Ext wr w7 := z6.trans z7'))
          have HX7 := Lib.hid (hx.trans z7)
          clear HD HOY2 hf5 hn5 z5' z5 hf6 hn6 z6' z6 z7' z7 x0 x1 y0 y1
          rcases hq : fsEq ox oy with _ | _
          · have hbf : b = false := HNJ.out hq
            subst hbf
            clear hq HNJ
            go_wp2_with fail
            go_ret
            exact ⟨rfl, HXW.out.trans HX7.out⟩
          · have HQ := Lib.hid hq
            clear hq HNJ
            go_wp2_with fail
            go_roundw
            case rel => exact ⟨j + 1, val_int (by omega), by omega, Lib.hid (fun k hk => by
              by_cases e : k = j
              · subst e; rw [HOE.out.1, HOE.out.2]; exact HQ.out
              · exact HJ.out k (by omega)), HX7.out⟩
            case measure => simp [intOf]; omega
      · have hj1 : ¬ (j : Int) < x.n2 := by omega
        have hj2 : ¬ (j : Int) < y.n2 := by omega
        have hbt : b = true := HY2.out (fun k hk => HJ.out k (by omega))
        subst hbt
        go_wp2_with fail
        go_ret
        exact ⟨rfl, HW.out⟩
end Go.Proofs.YtiildgoaiookhaaGreat
