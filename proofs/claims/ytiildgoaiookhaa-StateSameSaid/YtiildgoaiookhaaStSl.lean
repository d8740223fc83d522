/- The walk of the law StateSame. (Printed by wip/tools/stsamelaw.py.) -/
import Derived.Test.YtiildgoaiookhaaStCr
import Derived.Test.YtiildgoaiookhaaStE
import Derived.Test.YtiildgoaiookhaaStO
namespace Go.Proofs.Ytiildgoaiookhaa
open Go.RowKit

def at3 (f : NV) : Option Addr × Nat × Nat := (f.A, f.len, f.cap)
/-- what the law's stores leave of the copies' rows -/
structure CopyI (Wb wr : World) (C K : Nat) (L M : List Value) (k : KV) (V1 V2 : Value) (n1 n2 : Nat) (A3 : Option Addr) (n3 c3 : Nat) (cs : List NV) : Prop where
  ext : Ext Wb wr
  bc : Blk wr C 26 L
  bk : Blk wr K 26 M
  ok : OwnK wr (C + 1) k
  r1 : ∃ xs, wr.ownsRow Wb.heap.size 45 4 V1 n1 xs
  r2 : ∃ xs, wr.ownsRow Wb.heap.size 47 2 V2 n2 xs
  r3 : ∃ l : List NV, wr.ownsRow Wb.heap.size 33 5 (.slice A3 n3 c3) n3 (thingsOf l) ∧ l.map at3 = cs.map at3
  r4 : ∀ f ∈ cs, ∃ xs, wr.ownsRow Wb.heap.size 3 1 (.slice f.A f.len f.cap) f.len xs
  l1 : ∀ g, V1.ownBlock = some g → g < C
  l2 : ∀ g, V2.ownBlock = some g → g < C
  l3 : ∀ g, (Value.slice A3 n3 c3).ownBlock = some g → g < C
  l4 : ∀ f ∈ cs, ∀ g, (Value.slice f.A f.len f.cap).ownBlock = some g → g < C
  lt : C < K
section
variable {Wb wr : World} {C K : Nat} {L M : List Value} {k : KV} {V1 V2 : Value} {n1 n2 : Nat} {A3 : Option Addr} {n3 c3 : Nat} {cs : List NV}
theorem CopyI.far (h : CopyI Wb wr C K L M k V1 V2 n1 n2 A3 n3 c3 cs) {g i : Nat} (u : Value) (h1 : Wb.heap.size ≤ g) (h2 : g < C) (h3 : (Value.slice A3 n3 c3).ownBlock ≠ some g) :
    CopyI Wb (wr.setCell ⟨g, i, none⟩ u) C K L M k V1 V2 n1 n2 A3 n3 c3 cs := by
  obtain ⟨l, hl, e⟩ := h.r3
  obtain ⟨x1, k1⟩ := h.r1
  obtain ⟨x2, k2⟩ := h.r2
  have := h.lt
  exact ⟨h.ext.setCell h1 u, h.bc.far (by show C ≠ g; omega) u, h.bk.far (by show K ≠ g; omega) u, h.ok.set (by show g < C + 1; omega) u, own_some k1 g i u, own_some k2 g i u, ⟨l, own_far hl h3 u, e⟩,
    fun f hf => by obtain ⟨xs, hx⟩ := h.r4 f hf; exact own_some hx g i u, h.l1, h.l2, h.l3, h.l4, h.lt⟩
theorem CopyI.id {g : Nat} (h : CopyI Wb wr C K L M k V1 V2 n1 n2 (some ⟨g, 0, none⟩) n3 c3 cs) {j : Nat} (hj : j < n3) :
    CopyI Wb (wr.setCell ⟨g, j * 5, none⟩ (.int .i64 99)) C K L M k V1 V2 n1 n2 (some ⟨g, 0, none⟩) n3 c3 cs := by
  obtain ⟨l, hl, e⟩ := h.r3
  obtain ⟨x1, k1⟩ := h.r1
  obtain ⟨x2, k2⟩ := h.r2
  have h0 := h.lt
  have h2 := h.l3 g rfl
  have h1 := (hl.lt g rfl).1
  have hll : l.length = n3 := by have := hl.1; rw [thingsOf_len] at this; omega
  refine ⟨h.ext.setCell h1 _, h.bc.far (by show C ≠ g; omega) _, h.bk.far (by show K ≠ g; omega) _, h.ok.set (by show g < C + 1; omega) _, own_some k1 g _ _, own_some k2 g _ _,
    ⟨l.set j { l[j] with id := 99 }, ?_, ?_⟩, fun f hf => by obtain ⟨xs, hx⟩ := h.r4 f hf; exact own_some hx g _ _, h.l1, h.l2, h.l3, h.l4, h.lt⟩
  · rw [← thingsOf_set l j 0 (by omega) (by omega) { l[j] with id := 99 } (.int .i64 99) rfl]
    exact own_store hl _ (by omega) _
  · rw [List.map_set, ← e]
    exact List.ext_getElem (by simp) fun i h1 h2 => by
      simp only [List.getElem_set, List.getElem_map]
      split
      · rename_i hij; subst hij; rfl
      · rfl
theorem CopyI.blk (h : CopyI Wb wr C K L M k V1 V2 n1 n2 A3 n3 c3 cs) {j : Nat} (hj : j < n3) : ∃ g, A3 = some ⟨g, 0, none⟩ := by
  obtain ⟨l, hl, e⟩ := h.r3
  obtain ⟨g, rfl, _⟩ := own_at hl (by omega)
  exact ⟨g, rfl⟩
/-- the row of chunks of the j-th snapshot -/
theorem CopyI.at_ {g : Nat} (h : CopyI Wb wr C K L M k V1 V2 n1 n2 (some ⟨g, 0, none⟩) n3 c3 cs) {j : Nat} (hj : j < cs.length) : wr.cell? ⟨g, j * 5 + 2, none⟩ = some (.slice cs[j].A cs[j].len cs[j].cap) ∧
    wr.frozen? ⟨g, j * 5, none⟩ = false ∧ (∃ u, wr.cell? ⟨g, j * 5, none⟩ = some u) ∧ (∀ q, q < cs[j].len → ∃ g', cs[j].A = some ⟨g', 0, none⟩ ∧ Wb.heap.size ≤ g' ∧ g' < C ∧ (Value.slice (some ⟨g, 0, none⟩) n3 c3).ownBlock ≠ some g' ∧ wr.frozen? ⟨g', q, none⟩ = false ∧ ∃ u, wr.cell? ⟨g', q, none⟩ = some u) := by
  obtain ⟨l, hl, e⟩ := h.r3
  have hll : l.length = cs.length := by have := congrArg List.length e; simpa using this
  have he : at3 l[j] = at3 cs[j] := by
    have := congrArg (fun m => m[j]?) e
    simp only [List.getElem?_map, List.getElem?_eq_getElem hj, List.getElem?_eq_getElem (show j < l.length by omega), Option.map_some, Option.some.injEq] at this
    exact this
  simp only [at3, Prod.mk.injEq] at he
  refine ⟨?_, own_frozen hl _, ⟨_, own_cell hl (i := j * 5) (by have := thingsOf_get l j 0 (by omega) (by omega); rw [Nat.add_zero] at this; rw [this]; rfl)⟩, fun q hq => ?_⟩
  · rw [← he.1, ← he.2.1, ← he.2.2]
    exact own_cell hl (i := j * 5 + 2) (by rw [thingsOf_get l j 2 (by omega) (by omega)]; rfl)
  · obtain ⟨xs, hx⟩ := h.r4 cs[j] (List.getElem_mem _)
    have hl4 := h.l4 cs[j] (List.getElem_mem _)
    obtain ⟨g', e', hb', _⟩ := own_at hx (by omega)
    have hx1 := hx.1
    rw [e'] at hx hl4
    refine ⟨g', e', hb', hl4 g' rfl, apart_of hl hx (by decide), own_frozen hx _, ?_⟩
    exact ⟨_, own_cell hx (i := q) (List.getElem?_eq_getElem (by omega))⟩
theorem CopyI.at1 {a1 : Option Addr} {e1 : Nat} (h : CopyI Wb wr C K L M k (.slice a1 n1 e1) V2 n1 n2 A3 n3 c3 cs) {j : Nat} (hj : j < n1) : ∃ g, a1 = some ⟨g, 0, none⟩ ∧ Wb.heap.size ≤ g ∧ g < C ∧ (Value.slice A3 n3 c3).ownBlock ≠ some g ∧ wr.frozen? ⟨g, j * 4 + 1, none⟩ = false ∧ ∃ u, wr.cell? ⟨g, j * 4 + 1, none⟩ = some u := by
  obtain ⟨l, hl, e⟩ := h.r3
  obtain ⟨xs, hx⟩ := h.r1
  have hl1 := h.l1
  obtain ⟨g, rfl, hb, _⟩ := own_at hx (by omega)
  have hx1 := hx.1
  exact ⟨g, rfl, hb, hl1 g rfl, apart_of hl hx (by decide), own_frozen hx _, _, own_cell hx (i := j * 4 + 1) (List.getElem?_eq_getElem (by omega))⟩
theorem CopyI.at2 {a2 : Option Addr} {e2 : Nat} (h : CopyI Wb wr C K L M k V1 (.slice a2 n2 e2) n1 n2 A3 n3 c3 cs) {j : Nat} (hj : j < n2) : ∃ g, a2 = some ⟨g, 0, none⟩ ∧ Wb.heap.size ≤ g ∧ g < C ∧ (Value.slice A3 n3 c3).ownBlock ≠ some g ∧ wr.frozen? ⟨g, j * 2 + 1, none⟩ = false ∧ ∃ u, wr.cell? ⟨g, j * 2 + 1, none⟩ = some u := by
  obtain ⟨l, hl, e⟩ := h.r3
  obtain ⟨xs, hx⟩ := h.r2
  have hl1 := h.l2
  obtain ⟨g, rfl, hb, _⟩ := own_at hx (by omega)
  have hx1 := hx.1
  exact ⟨g, rfl, hb, hl1 g rfl, apart_of hl hx (by decide), own_frozen hx _, _, own_cell hx (i := j * 2 + 1) (List.getElem?_eq_getElem (by omega))⟩
end
theorem len_as {l m : List NV} {n : Nat} (h : l.length = n) (e : m.map NV.s = l.map NV.s) : n = m.length := by
  have := congrArg List.length e; simp at this; omega
theorem Blk.far7 {w : World} {g g' : Nat} {t : TypeId} {l : List Value} (h : Blk w g t l) (hg : g ≠ g') (a b c d e f v : Value) : Blk (put7 w g' a b c d e f v) g t l :=
  ((((((h.far (p := ⟨g', 0, none⟩) hg a).far (p := ⟨g', 1, none⟩) hg b).far (p := ⟨g', 2, none⟩) hg c).far (p := ⟨g', 3, none⟩) hg d).far (p := ⟨g', 4, none⟩) hg e).far (p := ⟨g', 5, none⟩) hg f).far (p := ⟨g', 6, none⟩) hg v
theorem CopyI.start {Wb W wr : World} {C K B : Nat} {L M : List Value} {k t : KV} (ho : OwnK W B t) (hB : B = Wb.heap.size) (hC : C = W.heap.size) (xW : Ext W wr) (xb : Ext Wb wr) (bc : Blk wr C 26 L) (bk : Blk wr K 26 M) {Bk : Nat} (hk : OwnK wr Bk k) (hBk : C < Bk) (hK : C < K) :
    CopyI Wb wr C K L M k (.slice t.A1 t.n1 t.c1) (.slice t.A2 t.n2 t.c2) t.n1 t.n2 t.A3 t.n3 t.c3 t.sns := by
  subst hB hC
  have hx := ho.ext xW
  refine ⟨xb, bc, bk, ⟨hk.u0, hk.u1, hk.u2, hk.u3, own_base hk.o1 hBk, own_base hk.o2 hBk, own_base hk.o3 hBk, hk.k1, hk.k2, fun f hf => ⟨(hk.k3 f hf).u0, (hk.k3 f hf).u1, own_base (hk.k3 f hf).own hBk, (hk.k3 f hf).uc, (hk.k3 f hf).ut⟩⟩,
    ⟨_, hx.o1⟩, ⟨_, hx.o2⟩, ⟨_, hx.o3, rfl⟩, fun f hf => ⟨_, (hx.k3 f hf).own⟩, fun g hg => (ho.o1.lt g hg).2, fun g hg => (ho.o2.lt g hg).2, fun g hg => (ho.o3.lt g hg).2, fun f hf g hg => ((ho.k3 f hf).own.lt g hg).2, hK⟩

set_option maxRecDepth 100000 in
set_option maxHeartbeats 6400000 in
theorem law_StateSame (s s' : KV) (w : World) (hs : s.Ok w) (hs' : s'.Ok w) :
    Calls Try.prog 8 #[s.val, s'.val] w fun e w' => e = .returned (.bool true) ∧ Ext w w' := by
  unfold KV.val
  have hBa := (Blk.new w 26 [.int .i64 s.ver, .int .i64 s.next, .int .i64 s.keep, .int .i64 s.quota, .slice s.A1 s.n1 s.c1, .slice s.A2 s.n2 s.c2, .slice s.A3 s.n3 s.c3]).alloc (.cells #[.int .i64 s'.ver, .int .i64 s'.next, .int .i64 s'.keep, .int .i64 s'.quota, .slice s'.A1 s'.n1 s'.c1, .slice s'.A2 s'.n2 s'.c2, .slice s'.A3 s'.n3 s'.c3] 26)
  have hBb := Blk.new (w.alloc (.cells #[.int .i64 s.ver, .int .i64 s.next, .int .i64 s.keep, .int .i64 s.quota, .slice s.A1 s.n1 s.c1, .slice s.A2 s.n2 s.c2, .slice s.A3 s.n3 s.c3] 26)) 26 [.int .i64 s'.ver, .int .i64 s'.next, .int .i64 s'.keep, .int .i64 s'.quota, .slice s'.A1 s'.n1 s'.c1, .slice s'.A2 s'.n2 s'.c2, .slice s'.A3 s'.n3 s'.c3]
  rw [show (w.alloc (.cells #[.int .i64 s.ver, .int .i64 s.next, .int .i64 s.keep, .int .i64 s.quota, .slice s.A1 s.n1 s.c1, .slice s.A2 s.n2 s.c2, .slice s.A3 s.n3 s.c3] 26)).heap.size = w.heap.size + 1 by simp] at hBb
  go_enter Try.func8, Try.ntmps8
  go_wp2_with fail
  refine (law07_shown _).mono ?_
  rintro e w1 ⟨rfl, x1⟩
  replace hBa := hBa.ext x1
  replace hBb := hBb.ext x1
  have xw1 : Ext w w1 := (((Ext.refl w).alloc _).alloc _).trans x1
  have d0 := hBa.cell 0
  have d1 := hBa.cell 1
  have d2 := hBa.cell 2
  have d3 := hBa.cell 3
  have d4 := hBa.cell 4
  have d5 := hBa.cell 5
  have d6 := hBa.cell 6
  simp only [List.getElem?_cons_zero, List.getElem?_cons_succ] at d0 d1 d2 d3 d4 d5 d6
  have HL := Lib.hid (law07_less s w1 (hs.ext xw1))
  unfold KV.val at HL
  go_wp2_with fail
  refine HL.out.mono ?_
  clear HL
  rintro e w2 ⟨A, c, rfl, hown, x2⟩
  clear d0 d1 d2 d3 d4 d5 d6
  replace hBa := hBa.ext x2
  replace hBb := hBb.ext x2
  have xw2 := xw1.trans x2
  have hlt1 : w.heap.size < w1.heap.size := by have := xw1.size; have := x1.size; simp at this; omega
  have hown2 := own_st7 hown (g := w.heap.size) hlt1 (.int .i64 (lessK s A c).ver) (.int .i64 (lessK s A c).next) (.int .i64 (lessK s A c).keep) (.int .i64 (lessK s A c).quota) (.slice (lessK s A c).A1 (lessK s A c).n1 (lessK s A c).c1) (.slice (lessK s A c).A2 (lessK s A c).n2 (lessK s A c).c2) (.slice (lessK s A c).A3 (lessK s A c).n3 (lessK s A c).c3)
  have xW : Ext w (put7 w2 w.heap.size (.int .i64 (lessK s A c).ver) (.int .i64 (lessK s A c).next) (.int .i64 (lessK s A c).keep) (.int .i64 (lessK s A c).quota) (.slice (lessK s A c).A1 (lessK s A c).n1 (lessK s A c).c1) (.slice (lessK s A c).A2 (lessK s A c).n2 (lessK s A c).c2) (.slice (lessK s A c).A3 (lessK s A c).n3 (lessK s A c).c3)) := xw2.st7 (Nat.le_refl _) _ _ _ _ _ _ _
  have HOK := Lib.hid (fun (V : World) (x : Ext w V) (h : V.ownsRow w1.heap.size 33 5 (.slice A (min 20 s.n3) c) (min 20 s.n3) (thingsOf (cutSn s.sns))) => lessK_ok hs x h)
  have hszb : w.heap.size + 1 < w1.heap.size := by have := x1.size; simp at this; omega
  have hfew := lessK_few s A c
  have h20a : (lessK s A c).n1 ≤ 20 := by dsimp only [lessK]; omega
  have h20b : (lessK s A c).n2 ≤ 20 := by dsimp only [lessK]; omega
  have h20c : (lessK s A c).n3 ≤ 20 := by dsimp only [lessK]; omega
  have h12 : ∀ f ∈ (lessK s A c).sns, f.len ≤ 100000 := fun f hf => by
    obtain ⟨g, _, rfl⟩ := List.mem_map.1 hf
    have := cutN_len g; omega
  have hBb2 := hBb.far7 (show w.heap.size + 1 ≠ w.heap.size by omega) (.int .i64 (lessK s A c).ver) (.int .i64 (lessK s A c).next) (.int .i64 (lessK s A c).keep) (.int .i64 (lessK s A c).quota) (.slice (lessK s A c).A1 (lessK s A c).n1 (lessK s A c).c1) (.slice (lessK s A c).A2 (lessK s A c).n2 (lessK s A c).c2) (.slice (lessK s A c).A3 (lessK s A c).n3 (lessK s A c).c3)
  have hBa2 := hBa.st7 (.int .i64 (lessK s A c).ver) (.int .i64 (lessK s A c).next) (.int .i64 (lessK s A c).keep) (.int .i64 (lessK s A c).quota) (.slice (lessK s A c).A1 (lessK s A c).n1 (lessK s A c).c1) (.slice (lessK s A c).A2 (lessK s A c).n2 (lessK s A c).c2) (.slice (lessK s A c).A3 (lessK s A c).n3 (lessK s A c).c3)
  have d0 := hBa.cell 0
  have d1 := hBa.cell 1
  have d2 := hBa.cell 2
  have d3 := hBa.cell 3
  have d4 := hBa.cell 4
  have d5 := hBa.cell 5
  have d6 := hBa.cell 6
  simp only [List.getElem?_cons_zero, List.getElem?_cons_succ] at d0 d1 d2 d3 d4 d5 d6
  have f0 := hBa.frozen 0
  have f1 := hBa.frozen 1
  have f2 := hBa.frozen 2
  have f3 := hBa.frozen 3
  have f4 := hBa.frozen 4
  have f5 := hBa.frozen 5
  have f6 := hBa.frozen 6
  have hsz12 := x2.size
  clear hBa hBb hown xw1 xw2 x1 hs
  generalize lessK s A c = t at *
  go_upto_region 3 with fail
  rw [st7_def]
  clear d0 d1 d2 d3 d4 d5 d6 f0 f1 f2 f3 f4 f5 f6 x2 hlt1
  have hxw12 : w1.heap.size ≤ (put7 w2 w.heap.size (.int .i64 t.ver) (.int .i64 t.next) (.int .i64 t.keep) (.int .i64 t.quota) (.slice t.A1 t.n1 t.c1) (.slice t.A2 t.n2 t.c2) (.slice t.A3 t.n3 t.c3)).heap.size := by unfold put7; simpa using hsz12
  clear hsz12
  generalize put7 w2 w.heap.size (.int .i64 t.ver) (.int .i64 t.next) (.int .i64 t.keep) (.int .i64 t.quota) (.slice t.A1 t.n1 t.c1) (.slice t.A2 t.n2 t.c2) (.slice t.A3 t.n3 t.c3) = W2 at *
  have d0 := hBb2.cell 0
  have d1 := hBb2.cell 1
  have d2 := hBb2.cell 2
  have d3 := hBb2.cell 3
  have d4 := hBb2.cell 4
  have d5 := hBb2.cell 5
  have d6 := hBb2.cell 6
  simp only [List.getElem?_cons_zero, List.getElem?_cons_succ] at d0 d1 d2 d3 d4 d5 d6
  have hw12 : w1.heap.size ≤ W2.heap.size := hxw12
  have HL := Lib.hid (law07_less s' W2 (hs'.ext xW))
  unfold KV.val at HL
  go_wp2_with fail
  refine HL.out.mono ?_
  clear HL
  rintro e w3 ⟨A', c', rfl, hown, x3⟩
  clear d0 d1 d2 d3 d4 d5 d6
  replace hBa2 := hBa2.ext x3
  replace hBb2 := hBb2.ext x3
  have xw3 := xW.trans x3
  have hszc := hBb2.lt
  have hown3 := own_ext hown2 x3
  have hown4 := own_st7 hown (g := w.heap.size + 1) (Nat.lt_of_lt_of_le hszb hw12) (.int .i64 (lessK s' A' c').ver) (.int .i64 (lessK s' A' c').next) (.int .i64 (lessK s' A' c').keep) (.int .i64 (lessK s' A' c').quota) (.slice (lessK s' A' c').A1 (lessK s' A' c').n1 (lessK s' A' c').c1) (.slice (lessK s' A' c').A2 (lessK s' A' c').n2 (lessK s' A' c').c2) (.slice (lessK s' A' c').A3 (lessK s' A' c').n3 (lessK s' A' c').c3)
  have hown5 := own_st7 hown3 (g := w.heap.size + 1) hszb (.int .i64 (lessK s' A' c').ver) (.int .i64 (lessK s' A' c').next) (.int .i64 (lessK s' A' c').keep) (.int .i64 (lessK s' A' c').quota) (.slice (lessK s' A' c').A1 (lessK s' A' c').n1 (lessK s' A' c').c1) (.slice (lessK s' A' c').A2 (lessK s' A' c').n2 (lessK s' A' c').c2) (.slice (lessK s' A' c').A3 (lessK s' A' c').n3 (lessK s' A' c').c3)
  have xV : Ext w (put7 w3 (w.heap.size + 1) (.int .i64 (lessK s' A' c').ver) (.int .i64 (lessK s' A' c').next) (.int .i64 (lessK s' A' c').keep) (.int .i64 (lessK s' A' c').quota) (.slice (lessK s' A' c').A1 (lessK s' A' c').n1 (lessK s' A' c').c1) (.slice (lessK s' A' c').A2 (lessK s' A' c').n2 (lessK s' A' c').c2) (.slice (lessK s' A' c').A3 (lessK s' A' c').n3 (lessK s' A' c').c3)) := xw3.st7 (by omega) _ _ _ _ _ _ _
  have hok := HOK.out _ xV hown5
  have hok' := lessK_ok hs' xV hown4
  have hfew' := lessK_few s' A' c'
  have hBa3 := hBa2.far7 (show w.heap.size ≠ w.heap.size + 1 by omega) (.int .i64 (lessK s' A' c').ver) (.int .i64 (lessK s' A' c').next) (.int .i64 (lessK s' A' c').keep) (.int .i64 (lessK s' A' c').quota) (.slice (lessK s' A' c').A1 (lessK s' A' c').n1 (lessK s' A' c').c1) (.slice (lessK s' A' c').A2 (lessK s' A' c').n2 (lessK s' A' c').c2) (.slice (lessK s' A' c').A3 (lessK s' A' c').n3 (lessK s' A' c').c3)
  have hBb3 := hBb2.st7 (.int .i64 (lessK s' A' c').ver) (.int .i64 (lessK s' A' c').next) (.int .i64 (lessK s' A' c').keep) (.int .i64 (lessK s' A' c').quota) (.slice (lessK s' A' c').A1 (lessK s' A' c').n1 (lessK s' A' c').c1) (.slice (lessK s' A' c').A2 (lessK s' A' c').n2 (lessK s' A' c').c2) (.slice (lessK s' A' c').A3 (lessK s' A' c').n3 (lessK s' A' c').c3)
  have d0 := hBb2.cell 0
  have d1 := hBb2.cell 1
  have d2 := hBb2.cell 2
  have d3 := hBb2.cell 3
  have d4 := hBb2.cell 4
  have d5 := hBb2.cell 5
  have d6 := hBb2.cell 6
  simp only [List.getElem?_cons_zero, List.getElem?_cons_succ] at d0 d1 d2 d3 d4 d5 d6
  have f0 := hBb2.frozen 0
  have f1 := hBb2.frozen 1
  have f2 := hBb2.frozen 2
  have f3 := hBb2.frozen 3
  have f4 := hBb2.frozen 4
  have f5 := hBb2.frozen 5
  have f6 := hBb2.frozen 6
  clear hBa2 hBb2 hown hown2 hown3 hown4 hown5 xw3 xW hs' HOK hszc
  generalize lessK s' A' c' = t' at *
  go_upto_region 4 with fail
  rw [st7_def]
  clear d0 d1 d2 d3 d4 d5 d6 f0 f1 f2 f3 f4 f5 f6 x3
  generalize put7 w3 (w.heap.size + 1) (.int .i64 t'.ver) (.int .i64 t'.next) (.int .i64 t'.keep) (.int .i64 t'.quota) (.slice t'.A1 t'.n1 t'.c1) (.slice t'.A2 t'.n2 t'.c2) (.slice t'.A3 t'.n3 t'.c3) = W3 at *
  have d0 := hBa3.cell 0
  have d1 := hBa3.cell 1
  have d2 := hBa3.cell 2
  have d3 := hBa3.cell 3
  have d4 := hBa3.cell 4
  have d5 := hBa3.cell 5
  have d6 := hBa3.cell 6
  simp only [List.getElem?_cons_zero, List.getElem?_cons_succ] at d0 d1 d2 d3 d4 d5 d6
  have HC := Lib.hid (st_Copy t W3 hok (by omega) (by omega) (by omega) h12)
  unfold KV.val at HC
  go_wp2_with fail
  refine HC.out.mono ?_
  clear HC
  rintro e w4 ⟨tc, rfl, hoc, hac, x4⟩
  clear d0 d1 d2 d3 d4 d5 d6
  obtain ⟨v, x, kp, q, a1, m1, e1, ss, a2, m2, e2, oo, a3, m3, e3, cs⟩ := tc
  have y0 := hac.ver; have y1 := hac.next; have y2 := hac.keep; have y3 := hac.quota; have y4 := hac.n1; have y5 := hac.ses; have y6 := hac.n2; have y7 := hac.ops; have y8 := hac.n3
  dsimp only at y0 y1 y2 y3 y4 y5 y6 y7 y8
  subst y0 y1 y2 y3 y4 y5 y6 y7 y8
  dsimp only
  go_upto_region 5 with fail
  have x5 : Ext W3 (w4.alloc (.cells #[.int .i64 t.ver, .int .i64 t.next, .int .i64 t.keep, .int .i64 t.quota, .slice a1 t.n1 e1, .slice a2 t.n2 e2, .slice a3 t.n3 e3] 26)) := x4.alloc _
  have hBc := Blk.new w4 26 [.int .i64 t.ver, .int .i64 t.next, .int .i64 t.keep, .int .i64 t.quota, .slice a1 t.n1 e1, .slice a2 t.n2 e2, .slice a3 t.n3 e3]
  have hoc5 := hoc.ext ((Ext.refl w4).alloc (.cells #[.int .i64 t.ver, .int .i64 t.next, .int .i64 t.keep, .int .i64 t.quota, .slice a1 t.n1 e1, .slice a2 t.n2 e2, .slice a3 t.n3 e3] 26))
  have HOC := Lib.hid hoc
  have hcs := hoc.k3
  have hsame := hac.same'
  have hfewc := hac.few hfew
  have hlt4 := x4.size
  clear hoc
  have x45 : Ext w4 (w4.alloc (.cells #[.int .i64 t.ver, .int .i64 t.next, .int .i64 t.keep, .int .i64 t.quota, .slice a1 t.n1 e1, .slice a2 t.n2 e2, .slice a3 t.n3 e3] 26)) := (Ext.refl w4).alloc _
  have HLN := Lib.hid (len_as hok.t3.len hac.sns)
  have hlc := s_len hac.sns h12
  generalize w4.alloc (.cells #[.int .i64 t.ver, .int .i64 t.next, .int .i64 t.keep, .int .i64 t.quota, .slice a1 t.n1 e1, .slice a2 t.n2 e2, .slice a3 t.n3 e3] 26) = W5 at *
  have hsz5 := hBc.lt
  have P0 := Lib.hid (fun (w' : World) (h : Ext W5 w') => st_Same t t' _ rfl w' (hok.ext (x5.trans h)) (hok'.ext (x5.trans h)) hfew hfew')
  have P1 := Lib.hid (fun (w' : World) (h : Ext W5 w') => ref07_Same t t' _ rfl w' (hok.ext (x5.trans h)) (hok'.ext (x5.trans h)) hfew hfew')
  have P2 := Lib.hid (fun (w' : World) (h : Ext W5 w') => ref07_Same _ t true hsame w' (hoc5.ok.ext h) (hok.ext (x5.trans h)) hfewc hfew)
  have P3 := Lib.hid (fun (w' : World) (h : Ext W5 w') => st_Same t t true (kSame_refl t) w' (hok.ext (x5.trans h)) (hok.ext (x5.trans h)) hfew hfew)
  have P4 := Lib.hid (fun (w' : World) (h : Ext W5 w') => ref07_Copy t w' (hok.ext (x5.trans h)) (by omega) (by omega) (by omega) h12)
  have P5 := Lib.hid (fun (k : KV) (hk : AsK t k) (w' : World) (B : Nat) (h : Ext W3 w') (ho : OwnK w' B k) => ref07_Same t k true hk.same w' (hok.ext h) ho.ok hfew (hk.few hfew))
  generalize kSame t t' = bb at *
  unfold KV.val at P0 P1 P2 P3 P4 P5
  dsimp only at P2
  have HS := Lib.hid (fun (w' : World) (h : Ext W5 w') => (show (w'.cell? ⟨w.heap.size, 0, none⟩ = some (.int .i64 t.ver) ∧ w'.cell? ⟨w.heap.size, 1, none⟩ = some (.int .i64 t.next) ∧ w'.cell? ⟨w.heap.size, 2, none⟩ = some (.int .i64 t.keep) ∧ w'.cell? ⟨w.heap.size, 3, none⟩ = some (.int .i64 t.quota) ∧ w'.cell? ⟨w.heap.size, 4, none⟩ = some (.slice t.A1 t.n1 t.c1) ∧ w'.cell? ⟨w.heap.size, 5, none⟩ = some (.slice t.A2 t.n2 t.c2) ∧ w'.cell? ⟨w.heap.size, 6, none⟩ = some (.slice t.A3 t.n3 t.c3)) ∧ (w'.cell? ⟨w.heap.size + 1, 0, none⟩ = some (.int .i64 t'.ver) ∧ w'.cell? ⟨w.heap.size + 1, 1, none⟩ = some (.int .i64 t'.next) ∧ w'.cell? ⟨w.heap.size + 1, 2, none⟩ = some (.int .i64 t'.keep) ∧ w'.cell? ⟨w.heap.size + 1, 3, none⟩ = some (.int .i64 t'.quota) ∧ w'.cell? ⟨w.heap.size + 1, 4, none⟩ = some (.slice t'.A1 t'.n1 t'.c1) ∧ w'.cell? ⟨w.heap.size + 1, 5, none⟩ = some (.slice t'.A2 t'.n2 t'.c2) ∧ w'.cell? ⟨w.heap.size + 1, 6, none⟩ = some (.slice t'.A3 t'.n3 t'.c3)) from
    ⟨⟨(hBa3.ext (x5.trans h)).cell 0, (hBa3.ext (x5.trans h)).cell 1, (hBa3.ext (x5.trans h)).cell 2, (hBa3.ext (x5.trans h)).cell 3, (hBa3.ext (x5.trans h)).cell 4, (hBa3.ext (x5.trans h)).cell 5, (hBa3.ext (x5.trans h)).cell 6⟩,
     ⟨(hBb3.ext (x5.trans h)).cell 0, (hBb3.ext (x5.trans h)).cell 1, (hBb3.ext (x5.trans h)).cell 2, (hBb3.ext (x5.trans h)).cell 3, (hBb3.ext (x5.trans h)).cell 4, (hBb3.ext (x5.trans h)).cell 5, (hBb3.ext (x5.trans h)).cell 6⟩⟩))
  have HBA := Lib.hid hBa3
  have HBC := Lib.hid hBc
  have HCS := Lib.hid hcs
  have HAC := Lib.hid hac
  clear hBa3 hBb3 hoc5 hok hok' hfew hfew' hfewc hac hcs hsame hBc
  obtain ⟨⟨s0, s1, s2, s3, s4, s5, s6⟩, r0, r1, r2, r3, r4, r5, r6⟩ := HS.out _ (Ext.refl W5)
  have x0 : Ext W5 W5.drew := (Ext.refl W5).drew
  go_region_held3 (fun w' => (w'.cell? ⟨w.heap.size, 0, none⟩ = some (.int .i64 t.ver) ∧ w'.cell? ⟨w.heap.size, 1, none⟩ = some (.int .i64 t.next) ∧ w'.cell? ⟨w.heap.size, 2, none⟩ = some (.int .i64 t.keep) ∧ w'.cell? ⟨w.heap.size, 3, none⟩ = some (.int .i64 t.quota) ∧ w'.cell? ⟨w.heap.size, 4, none⟩ = some (.slice t.A1 t.n1 t.c1) ∧ w'.cell? ⟨w.heap.size, 5, none⟩ = some (.slice t.A2 t.n2 t.c2) ∧ w'.cell? ⟨w.heap.size, 6, none⟩ = some (.slice t.A3 t.n3 t.c3)) ∧ (w'.cell? ⟨w.heap.size + 1, 0, none⟩ = some (.int .i64 t'.ver) ∧ w'.cell? ⟨w.heap.size + 1, 1, none⟩ = some (.int .i64 t'.next) ∧ w'.cell? ⟨w.heap.size + 1, 2, none⟩ = some (.int .i64 t'.keep) ∧ w'.cell? ⟨w.heap.size + 1, 3, none⟩ = some (.int .i64 t'.quota) ∧ w'.cell? ⟨w.heap.size + 1, 4, none⟩ = some (.slice t'.A1 t'.n1 t'.c1) ∧ w'.cell? ⟨w.heap.size + 1, 5, none⟩ = some (.slice t'.A2 t'.n2 t'.c2) ∧ w'.cell? ⟨w.heap.size + 1, 6, none⟩ = some (.slice t'.A3 t'.n3 t'.c3)))
    (first | (exact HS.out _ z1) | (exact HS.out _ z0) | (exact HS.out _ x0) | (exact HS.out _ (Ext.refl W5)) | go_keep)
    (first
      | (go_at_call 20; refine (P0.out _ x0).mono ?_; rintro e b0 ⟨rfl, z0'⟩; have z0 := x0.trans z0'; clear z0')
      | (go_at_call 31; refine (P1.out _ z0).mono ?_; rintro e b1 ⟨rfl, z1'⟩; have z1 := z0.trans z1'; clear z1'))
  clear P0 P1 s0 s1 s2 s3 s4 s5 s6 r0 r1 r2 r3 r4 r5 r6
  obtain ⟨⟨s0, s1, s2, s3, s4, s5, s6⟩, _⟩ := HS.out _ z1
  have hBc1 := HBC.out.ext z1
  have c0 := hBc1.cell 0
  have c1 := hBc1.cell 1
  have c2 := hBc1.cell 2
  have c3 := hBc1.cell 3
  have c4 := hBc1.cell 4
  have c5 := hBc1.cell 5
  have c6 := hBc1.cell 6
  simp only [List.getElem?_cons_zero, List.getElem?_cons_succ] at c0 c1 c2 c3 c4 c5 c6
  go_wp2_with fail
  refine (P2.out _ z1).mono ?_
  rintro e w6 ⟨rfl, z6'⟩
  have z6 := z1.trans z6'
  clear P2 s0 s1 s2 s3 s4 s5 s6 c0 c1 c2 c3 c4 c5 c6 hBc1 z6'
  obtain ⟨⟨s0, s1, s2, s3, s4, s5, s6⟩, _⟩ := HS.out _ z6
  go_wp2_with fail
  refine (P3.out _ z6).mono ?_
  rintro e w7 ⟨rfl, z7'⟩
  have z7 := z6.trans z7'
  clear P3 s0 s1 s2 s3 s4 s5 s6 z7' z6
  obtain ⟨⟨s0, s1, s2, s3, s4, s5, s6⟩, _⟩ := HS.out _ z7
  go_wp2_with fail
  refine (P4.out _ z7).mono ?_
  rintro e w8 ⟨k, rfl, hok8, hak8, z8'⟩
  clear P4 s0 s1 s2 s3 s4 s5 s6
  have hszk : W5.heap.size ≤ w7.heap.size := z7.size
  have hszk8 : w7.heap.size ≤ w8.heap.size := z8'.size
  have z8 := z7.trans z8'
  clear z7 z8'
  go_upto_region 8 with fail
  have hBk := Blk.new w8 26 [.int .i64 k.ver, .int .i64 k.next, .int .i64 k.keep, .int .i64 k.quota, .slice k.A1 k.n1 k.c1, .slice k.A2 k.n2 k.c2, .slice k.A3 k.n3 k.c3]
  have x48 : Ext w4 (w8.alloc (.cells #[.int .i64 k.ver, .int .i64 k.next, .int .i64 k.keep, .int .i64 k.quota, .slice k.A1 k.n1 k.c1, .slice k.A2 k.n2 k.c2, .slice k.A3 k.n3 k.c3] 26)) := (x45.trans z8).alloc _
  have x38 : Ext W3 (w8.alloc (.cells #[.int .i64 k.ver, .int .i64 k.next, .int .i64 k.keep, .int .i64 k.quota, .slice k.A1 k.n1 k.c1, .slice k.A2 k.n2 k.c2, .slice k.A3 k.n3 k.c3] 26)) := (x5.trans z8).alloc _
  have hI0 := CopyI.start (L := [.int .i64 t.ver, .int .i64 t.next, .int .i64 t.keep, .int .i64 t.quota, .slice a1 t.n1 e1, .slice a2 t.n2 e2, .slice a3 t.n3 e3]) (C := w4.heap.size) HOC.out rfl rfl x48 x38 ((HBC.out.ext z8).alloc _) hBk (hok8.ext ((Ext.refl w8).alloc _)) (by omega) (by omega)
  clear hBk x48 x38 hok8 HS HBC HOC z8 z1 x0 x45 x5 HCS HAC x4
  dsimp only at hI0
  generalize w8.alloc (.cells #[.int .i64 k.ver, .int .i64 k.next, .int .i64 k.keep, .int .i64 k.quota, .slice k.A1 k.n1 k.c1, .slice k.A2 k.n2 k.c2, .slice k.A3 k.n3 k.c3] 26) = W8 at *
  generalize hCC : w4.heap.size = C at *
  generalize hKK : w8.heap.size = K at *
  clear hCC hKK
  have HI0 := Lib.hid hI0
  clear hI0
  go_wp2_with fail
  go_loopw [10] (fun i wr => ∃ j : Nat, i = .int .i64 j ∧ j ≤ t.n3 ∧ CopyI W3 wr C K [.int .i64 t.ver, .int .i64 t.next, .int .i64 t.keep, .int .i64 t.quota, .slice a1 t.n1 e1, .slice a2 t.n2 e2, .slice a3 t.n3 e3] [.int .i64 k.ver, .int .i64 k.next, .int .i64 k.keep, .int .i64 k.quota, .slice k.A1 k.n1 k.c1, .slice k.A2 k.n2 k.c2, .slice k.A3 k.n3 k.c3] k (.slice a1 t.n1 e1) (.slice a2 t.n2 e2) t.n1 t.n2 a3 t.n3 e3 cs) (fun i _ => t.n3 - (intOf i).toNat)
  case atStart => exact ⟨0, rfl, by omega, HI0.out⟩
  case round =>
    clear HI0
    obtain ⟨j, rfl, hj, hI⟩ := hrel
    obtain ⟨wo, rfl⟩ : ∃ wo : World, wo = wr := ⟨_, rfl⟩
    have c6 := hI.bc.cell 6
    simp only [List.getElem?_cons_zero, List.getElem?_cons_succ] at c6
    by_cases hjn : j < t.n3
    · obtain ⟨g, rfl⟩ := hI.blk hjn
      have hjl : j < cs.length := by have := HLN.out; omega
      have hlj := hlc cs[j] (List.getElem_mem _)
      have HAT := Lib.hid (fun (V : World) (h : CopyI W3 V C K [.int .i64 t.ver, .int .i64 t.next, .int .i64 t.keep, .int .i64 t.quota, .slice a1 t.n1 e1, .slice a2 t.n2 e2, .slice (some ⟨g, 0, none⟩) t.n3 e3] [.int .i64 k.ver, .int .i64 k.next, .int .i64 k.keep, .int .i64 k.quota, .slice k.A1 k.n1 k.c1, .slice k.A2 k.n2 k.c2, .slice k.A3 k.n3 k.c3] k (.slice a1 t.n1 e1) (.slice a2 t.n2 e2) t.n1 t.n2 (some ⟨g, 0, none⟩) t.n3 e3 cs) => h.at_ hjl)
      have HI := Lib.hid hI
      clear hI
      generalize cs[j] = f at *
      obtain ⟨fi, fs, A, ln, cp, ch, hd, tg⟩ := f
      dsimp only at HAT hlj
      obtain ⟨c2_, _, _, _⟩ := HAT.out _ HI.out
      have hj0 : (0 : Int) ≤ j := by omega
      have hj1 : (j : Int) < t.n3 := by omega
      go_wp2_with fail
      go_loopw [11] (fun i wr => ∃ q : Nat, i = .int .i64 q ∧ q ≤ ln ∧ CopyI W3 wr C K [.int .i64 t.ver, .int .i64 t.next, .int .i64 t.keep, .int .i64 t.quota, .slice a1 t.n1 e1, .slice a2 t.n2 e2, .slice (some ⟨g, 0, none⟩) t.n3 e3] [.int .i64 k.ver, .int .i64 k.next, .int .i64 k.keep, .int .i64 k.quota, .slice k.A1 k.n1 k.c1, .slice k.A2 k.n2 k.c2, .slice k.A3 k.n3 k.c3] k (.slice a1 t.n1 e1) (.slice a2 t.n2 e2) t.n1 t.n2 (some ⟨g, 0, none⟩) t.n3 e3 cs) (fun i _ => ln - (intOf i).toNat)
      case atStart => exact ⟨0, rfl, by omega, HI.out⟩
      case round =>
        clear HI c2_ c6
        obtain ⟨q, rfl, hq, hI⟩ := hrel
        have c6 := hI.bc.cell 6
        simp only [List.getElem?_cons_zero, List.getElem?_cons_succ] at c6
        obtain ⟨c2_, z5, ⟨u5, d5⟩, hch⟩ := HAT.out _ hI
        by_cases hqn : q < ln
        · obtain ⟨g', rfl, k1, k2, k3, z6, u6, d6⟩ := hch q hqn
          have hI2 := Lib.hid (hI.far (i := q) (.int .i64 77) k1 k2 k3)
          have hq0 : (0 : Int) ≤ q := by omega
          have hq1 : (q : Int) < ln := by omega
          clear hch z5 d5 k3 hI
          go_wp2_with fail
          go_roundw
          case rel => exact ⟨q + 1, val_int (by omega), by omega, hI2.out⟩
          case measure => simp [intOf]; omega
        · obtain rfl : ln = q := by omega
          have hI2 := Lib.hid (hI.id hjn)
          clear hch hI
          go_wp2_with fail
          go_roundw
          case rel => exact ⟨j + 1, val_int (by omega), by omega, hI2.out⟩
          case measure => simp [intOf]; omega
    · have hjn3 : t.n3 = j := by omega
      have hlt3 : ¬ ((j : Int) < t.n3) := by omega
      have HI := Lib.hid hI
      clear hI hjn3
      go_wp2_with fail
      clear c6 hlt3
      go_loopw [12] (fun i wr => ∃ q : Nat, i = .int .i64 q ∧ q ≤ t.n1 ∧ CopyI W3 wr C K [.int .i64 t.ver, .int .i64 t.next, .int .i64 t.keep, .int .i64 t.quota, .slice a1 t.n1 e1, .slice a2 t.n2 e2, .slice a3 t.n3 e3] [.int .i64 k.ver, .int .i64 k.next, .int .i64 k.keep, .int .i64 k.quota, .slice k.A1 k.n1 k.c1, .slice k.A2 k.n2 k.c2, .slice k.A3 k.n3 k.c3] k (.slice a1 t.n1 e1) (.slice a2 t.n2 e2) t.n1 t.n2 a3 t.n3 e3 cs) (fun i _ => t.n1 - (intOf i).toNat)
      case atStart => exact ⟨0, rfl, by omega, HI.out⟩
      case round =>
        clear HI
        obtain ⟨q, rfl, hq, hI⟩ := hrel
        have c4 := hI.bc.cell 4
        simp only [List.getElem?_cons_zero, List.getElem?_cons_succ] at c4
        by_cases hqn : q < t.n1
        · obtain ⟨g', rfl, k1, k2, k3, z6, u6, d6⟩ := hI.at1 hqn
          have hI2 := Lib.hid (hI.far (i := q * 4 + 1) (.int .i64 55) k1 k2 k3)
          have hq0 : (0 : Int) ≤ q := by omega
          have hq1 : (q : Int) < t.n1 := by omega
          clear k3 hI
          go_wp2_with fail
          go_roundw
          case rel => exact ⟨q + 1, val_int (by omega), by omega, hI2.out⟩
          case measure => simp [intOf]; omega
        · have hlt1 : ¬ ((q : Int) < t.n1) := by omega
          obtain ⟨wp, rfl⟩ : ∃ wp : World, wp = wr := ⟨_, rfl⟩
          have HI := Lib.hid hI
          clear hI
          go_wp2_with fail
          clear c4 hlt1
          go_loopw [13] (fun i wr => ∃ q : Nat, i = .int .i64 q ∧ q ≤ t.n2 ∧ CopyI W3 wr C K [.int .i64 t.ver, .int .i64 t.next, .int .i64 t.keep, .int .i64 t.quota, .slice a1 t.n1 e1, .slice a2 t.n2 e2, .slice a3 t.n3 e3] [.int .i64 k.ver, .int .i64 k.next, .int .i64 k.keep, .int .i64 k.quota, .slice k.A1 k.n1 k.c1, .slice k.A2 k.n2 k.c2, .slice k.A3 k.n3 k.c3] k (.slice a1 t.n1 e1) (.slice a2 t.n2 e2) t.n1 t.n2 a3 t.n3 e3 cs) (fun i _ => t.n2 - (intOf i).toNat)
          case atStart => exact ⟨0, rfl, by omega, HI.out⟩
          case round =>
            clear HI
            obtain ⟨p, rfl, hp, hI⟩ := hrel
            have c5 := hI.bc.cell 5
            simp only [List.getElem?_cons_zero, List.getElem?_cons_succ] at c5
            by_cases hpn : p < t.n2
            · obtain ⟨g', rfl, k1, k2, k3, z6, u6, d6⟩ := hI.at2 hpn
              have hI2 := Lib.hid (hI.far (i := p * 2 + 1) (.int .i64 44) k1 k2 k3)
              have hp0 : (0 : Int) ≤ p := by omega
              have hp1 : (p : Int) < t.n2 := by omega
              clear k3 hI
              go_wp2_with fail
              go_roundw
              case rel => exact ⟨p + 1, val_int (by omega), by omega, hI2.out⟩
              case measure => simp [intOf]; omega
            · have hlt2 : ¬ ((p : Int) < t.n2) := by omega
              have hBa := HBA.out.ext hI.ext
              have hBk := hI.bk
              have d0 := hBa.cell 0
              have d1 := hBa.cell 1
              have d2 := hBa.cell 2
              have d3 := hBa.cell 3
              have d4 := hBa.cell 4
              have d5 := hBa.cell 5
              have d6 := hBa.cell 6
              simp only [List.getElem?_cons_zero, List.getElem?_cons_succ] at d0 d1 d2 d3 d4 d5 d6
              have k0 := hBk.cell 0
              have k1 := hBk.cell 1
              have k2 := hBk.cell 2
              have k3 := hBk.cell 3
              have k4 := hBk.cell 4
              have k5 := hBk.cell 5
              have k6 := hBk.cell 6
              simp only [List.getElem?_cons_zero, List.getElem?_cons_succ] at k0 k1 k2 k3 k4 k5 k6
              have HE := Lib.hid (P5.out k hak8 _ _ hI.ext hI.ok)
              have hxe := hI.ext
              clear hI hBa hBk P5
              go_wp2_with fail
              refine HE.out.mono ?_
              rintro e w9 ⟨rfl, z9⟩
              go_wp2
              go_ret
              exact ⟨rfl, (xV.trans hxe).trans z9⟩
end Go.Proofs.Ytiildgoaiookhaa
