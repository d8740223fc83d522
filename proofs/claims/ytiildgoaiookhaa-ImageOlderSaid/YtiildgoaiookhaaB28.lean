/- Words and walks that the last text of this claim stands on: ImV. No condition. -/
import Derived.Test.YtiildgoaiookhaaB20
import Derived.Test.YtiildgoaiookhaaB27
import Derived.Test.YtiildgoaiookhaaB13
import Derived.Test.YtiildgoaiookhaaB22
import Derived.Test.YtiildgoaiookhaaB09
import Derived.Test.YtiildgoaiookhaaB17
/- The walk of coracleref09.View. -/
namespace Go.Proofs.Ytiildgoaiookhaa
open Go.RowKit

def toK (t : KV) (l : List NV) : KV := ⟨t.ver, t.next, t.keep, t.quota, t.A1, t.n1, t.c1, t.ses, t.A2, t.n2, t.c2, t.ops, t.A3, t.n3, t.c3, l⟩
theorem toK_same (t : KV) : toK t t.sns = t := rfl
def heldN (f : NV) (b : Bool) : NV := ⟨f.id, f.set, f.A, f.len, f.cap, f.ch, b, f.tag⟩
def tagN (f : NV) (s : ByteArray) : NV := ⟨f.id, f.set, f.A, f.len, f.cap, f.ch, f.held, s⟩
/-- stored into one of a catalogue's snapshots -/
theorem OwnK.snap {w : World} {B g : Nat} {t : KV} {l : List NV} (h : OwnK w B (toK t l)) (hA : t.A3 = some ⟨g, 0, none⟩) {j k : Nat} (hj : j < l.length) (hk : k < 5) (f : NV) (u : Value) (hf : f.cells = (l[j].cells).set k u) (ho : ∀ w', OwnN w' B l[j] → OwnN w' B f) :
    OwnK (w.setCell ⟨g, j * 5 + k, none⟩ u) B (toK t (l.set j f)) := by
  have o3 : w.ownsRow B 33 5 (.slice (some ⟨g, 0, none⟩) t.n3 t.c3) t.n3 (thingsOf l) := by have := h.o3; unfold toK at this; dsimp only at this; rw [hA] at this; exact this
  have hl : l.length = t.n3 := by have := o3.1; rw [thingsOf_len] at this; omega
  have hn : ∀ {e : TypeId} {s n : Nat} {v : Value} {xs : List Value}, w.ownsRow B e s v n xs → e ≠ 33 → (w.setCell ⟨g, j * 5 + k, none⟩ u).ownsRow B e s v n xs := by
    intro e s n v xs h1 hne
    refine own_far h1 ?_ u
    rcases own_apart h1 o3 hne with h2 | h2
    · rw [h2]; simp
    · exact h2
  refine ⟨h.u0, h.u1, h.u2, h.u3, hn h.o1 (by decide), hn h.o2 (by decide), ?_, fun f hf => ⟨(h.k1 f hf).u0, (h.k1 f hf).u1, (h.k1 f hf).u2, (h.k1 f hf).u3⟩, fun f hf => ⟨(h.k2 f hf).u0, (h.k2 f hf).u1⟩, fun f' hf' => ?_⟩
  · unfold toK
    dsimp only
    rw [hA, ← thingsOf_set l j k hj hk f u hf]
    exact own_store o3 _ (by rw [← hl]; omega) u
  · have key : ∀ f ∈ l, OwnN (w.setCell ⟨g, j * 5 + k, none⟩ u) B f := fun f hf => ⟨(h.k3 f hf).u0, (h.k3 f hf).u1, hn (h.k3 f hf).own (by decide), (h.k3 f hf).uc, (h.k3 f hf).ut⟩
    rcases List.mem_or_eq_of_mem_set hf' with hm | rfl
    · exact key f' hm
    · exact ho _ (key _ (List.getElem_mem hj))
theorem OwnK.cellN {w : World} {B g : Nat} {t : KV} {l : List NV} (h : OwnK w B (toK t l)) (hA : t.A3 = some ⟨g, 0, none⟩) {j k : Nat} (hj : j < l.length) (hk : k < 5) : w.frozen? ⟨g, j * 5 + k, none⟩ = false ∧ w.cell? ⟨g, j * 5 + k, none⟩ = (l[j].cells)[k]? := by
  have o3 : w.ownsRow B 33 5 (.slice (some ⟨g, 0, none⟩) t.n3 t.c3) t.n3 (thingsOf l) := by have := h.o3; unfold toK at this; dsimp only at this; rw [hA] at this; exact this
  refine ⟨own_frozen o3 _, ?_⟩
  have e := thingsOf_get l j k hj hk
  have hs : k < (l[j].cells).length := by simp [NV.cells]; omega
  have hc : (l[j].cells)[k]? = some ((l[j].cells)[k]) := List.getElem?_eq_getElem hs
  rw [hc]
  exact own_cell o3 (e.trans hc)
def viewTo (v : Int) (j : Nat) (l : List NV) : List NV := (l.take j).map (viewN v) ++ l.drop j
theorem viewTo_len (v : Int) (j : Nat) (l : List NV) : (viewTo v j l).length = l.length := by unfold viewTo; simp; omega
theorem viewTo_get (v : Int) (j : Nat) (l : List NV) (hj : j < l.length) (h' : j < (viewTo v j l).length) : (viewTo v j l)[j] = l[j] := by
  have e : (viewTo v j l)[j]? = l[j]? := by
    unfold viewTo
    rw [List.getElem?_append_right (by simp; omega)]
    simp [Nat.min_eq_left (Nat.le_of_lt hj)]
  rw [List.getElem?_eq_getElem h', List.getElem?_eq_getElem hj] at e
  exact Option.some.inj e
theorem viewTo_snoc (v : Int) (j : Nat) (l : List NV) (hj : j < l.length) : viewTo v (j + 1) l = (viewTo v j l).set j (viewN v l[j]) := by
  unfold viewTo
  have hl : ((l.take j).map (viewN v)).length = j := by simp; omega
  rw [List.take_succ_eq_append_getElem hj, List.map_append, List.set_append_right _ _ (by omega), List.drop_eq_getElem_cons hj, hl, Nat.sub_self, List.set_cons_zero]
  simp
theorem viewTo_all (v : Int) (l : List NV) : viewTo v l.length l = l.map (viewN v) := by unfold viewTo; simp
/-- what View leaves -/
def ViewPost (v : Int) (s : KV) (w : World) (e : Ending) (w' : World) : Prop :=
  ∃ t : KV, e = .returned (.tuple #[t.val, .int .i64 (if kmay s 3 = 0 then 0 else 1)]) ∧ t.Ok w' ∧ t.Few ∧ (kmay s 3 = 0 → kSame t (viewK v s) = true) ∧ Ext w w'
theorem viewK_s {v : Int} {s t : KV} {l : List NV} (h : AsK s t) (hl : l = t.sns.map (viewN v)) : kSame (toK ⟨t.ver, t.next, t.keep, if v < 3 then 0 else t.quota, t.A1, t.n1, t.c1, t.ses, t.A2, t.n2, t.c2, t.ops, t.A3, t.n3, t.c3, t.sns⟩ l) (viewK v s) = true := by
  refine kSame_iff.2 ⟨h.ver, h.next, h.keep, ?_, h.ses, h.ops, ?_⟩
  · unfold toK viewK; dsimp only; rw [h.quota]
  · unfold toK viewK
    dsimp only
    rw [hl, List.map_map, List.map_map]
    have e : ∀ l : List NV, l.map (NV.q ∘ viewN v) = (l.map NV.s).map fun p => (p.1, p.2.1, p.2.2.2.1, if v < 2 then false else p.2.2.2.2.1, if v < 3 then ⟨#[]⟩ else p.2.2.2.2.2) := by
      intro l; rw [List.map_map]; rfl
    rw [e, e, h.sns]
theorem viewN_id {v : Int} (h : 3 ≤ v) (f : NV) : viewN v f = f := by unfold viewN; rw [if_neg (by omega), if_neg (by omega)]
theorem viewTo_id {v : Int} (h : 3 ≤ v) (j : Nat) (l : List NV) : viewTo v j l = l := by
  unfold viewTo
  have e : (l.take j).map (viewN v) = l.take j := by
    refine List.ext_getElem (by simp) fun i h1 h2 => ?_
    rw [List.getElem_map, viewN_id h]
  rw [e, List.take_append_drop]
section
variable {w : World} {B g : Nat} {t : KV} {v : Int} {j : Nat}
theorem OwnK.view1 (h : OwnK w B (toK t (viewTo v j t.sns))) (hA : t.A3 = some ⟨g, 0, none⟩) (hj : j < t.sns.length) (h2 : ¬ v < 2) (h3 : v < 3) : OwnK (w.setCell ⟨g, j * 5 + 4, none⟩ (.string ⟨#[]⟩)) B (toK t (viewTo v (j + 1) t.sns)) := by
  have hl : j < (viewTo v j t.sns).length := by rw [viewTo_len]; exact hj
  have e := viewTo_get v j t.sns hj hl
  have := h.snap hA hl (k := 4) (by omega) (viewN v t.sns[j]) (.string ⟨#[]⟩) (by rw [e]; simp [NV.cells, viewN, h2, h3]) (fun w' ho => by
    rw [e] at ho
    exact ⟨ho.u0, ho.u1, ho.own, ho.uc, by unfold viewN; rw [if_pos h3]; exact Nat.zero_le _⟩)
  rw [← viewTo_snoc v j t.sns hj] at this
  exact this
theorem OwnK.view2 (h : OwnK w B (toK t (viewTo v j t.sns))) (hA : t.A3 = some ⟨g, 0, none⟩) (hj : j < t.sns.length) (h2 : v < 2) : OwnK ((w.setCell ⟨g, j * 5 + 3, none⟩ (.bool false)).setCell ⟨g, j * 5 + 4, none⟩ (.string ⟨#[]⟩)) B (toK t (viewTo v (j + 1) t.sns)) := by
  have h3 : v < 3 := by omega
  have hl : j < (viewTo v j t.sns).length := by rw [viewTo_len]; exact hj
  have e := viewTo_get v j t.sns hj hl
  have k1 := h.snap hA hl (k := 3) (by omega) (heldN t.sns[j] false) (.bool false) (by rw [e]; simp [NV.cells, heldN]) (fun w' ho => by
    rw [e] at ho
    exact ⟨ho.u0, ho.u1, ho.own, ho.uc, ho.ut⟩)
  have hl1 : j < ((viewTo v j t.sns).set j (heldN t.sns[j] false)).length := by rw [List.length_set]; exact hl
  have e1 : ((viewTo v j t.sns).set j (heldN t.sns[j] false))[j] = heldN t.sns[j] false := List.getElem_set_self hl1
  have k2 := k1.snap hA hl1 (k := 4) (by omega) (viewN v t.sns[j]) (.string ⟨#[]⟩) (by rw [e1]; simp [NV.cells, viewN, heldN, h2, h3]) (fun w' ho => by
    rw [e1] at ho
    exact ⟨ho.u0, ho.u1, ho.own, ho.uc, by unfold viewN; rw [if_pos h3]; exact Nat.zero_le _⟩)
  rw [List.set_set, ← viewTo_snoc v j t.sns hj] at k2
  exact k2
theorem OwnK.view0 (h : OwnK w B (toK t (viewTo v j t.sns))) (h3 : ¬ v < 3) : OwnK w B (toK t (viewTo v (j + 1) t.sns)) := by
  rw [viewTo_id (by omega)] at h ⊢; exact h
theorem OwnK.ne_ (h : OwnK w B t) (hA : t.A3 = some ⟨g, 0, none⟩) {b : Nat} {l : List Value} (hb : Blk w b 26 l) : b ≠ g := by
  have o3 := h.o3
  rw [hA] at o3
  intro e
  subst e
  exact own_blk_ne o3 hb (by decide) rfl
theorem OwnK.at3 (h : OwnK w B t) (hn : 0 < t.n3) : ∃ g, t.A3 = some ⟨g, 0, none⟩ ∧ B ≤ g := by
  obtain ⟨g, e, hb, _⟩ := own_at h.o3 hn
  exact ⟨g, e, hb⟩
theorem OwnK.len3 (h : OwnK w B t) : t.sns.length = t.n3 := h.ok.t3.len
end
theorem i64_0 : I64 0 := ⟨by decide, by decide⟩
theorem OwnK.farS {w : World} {B g i : Nat} {t : KV} {l : List Value} (h : OwnK w B t) (hb : Blk w g 26 l) (u : Value) : OwnK (w.setCell ⟨g, i, none⟩ u) B t :=
  ⟨h.u0, h.u1, h.u2, h.u3, own_far h.o1 (own_blk_ne h.o1 hb (by decide)) u, own_far h.o2 (own_blk_ne h.o2 hb (by decide)) u, own_far h.o3 (own_blk_ne h.o3 hb (by decide)) u, fun f hf => ⟨(h.k1 f hf).u0, (h.k1 f hf).u1, (h.k1 f hf).u2, (h.k1 f hf).u3⟩, fun f hf => ⟨(h.k2 f hf).u0, (h.k2 f hf).u1⟩,
    fun f hf => ⟨(h.k3 f hf).u0, (h.k3 f hf).u1, own_far (h.k3 f hf).own (own_blk_ne (h.k3 f hf).own hb (by decide)) u, (h.k3 f hf).uc, (h.k3 f hf).ut⟩⟩
theorem OwnK.put7 {w : World} {B g : Nat} {t : KV} (h : OwnK w B t) (hg : g < B) (a b c d e f v : Value) : OwnK (Go.Proofs.Ytiildgoaiookhaa.put7 w g a b c d e f v) B t :=
  ((((((h.set (p := ⟨g, 0, none⟩) hg a).set (p := ⟨g, 1, none⟩) hg b).set (p := ⟨g, 2, none⟩) hg c).set (p := ⟨g, 3, none⟩) hg d).set (p := ⟨g, 4, none⟩) hg e).set (p := ⟨g, 5, none⟩) hg f).set (p := ⟨g, 6, none⟩) hg v
theorem OwnK.quota {w : World} {B : Nat} {ver next keep quota q : Int} {A1 A2 A3 : Option Addr} {n1 c1 n2 c2 n3 c3 : Nat} {ses : List CV} {ops : List OV} {sns : List NV} (h : OwnK w B ⟨ver, next, keep, quota, A1, n1, c1, ses, A2, n2, c2, ops, A3, n3, c3, sns⟩) (hq : I64 q) : OwnK w B ⟨ver, next, keep, q, A1, n1, c1, ses, A2, n2, c2, ops, A3, n3, c3, sns⟩ :=
  ⟨h.u0, h.u1, h.u2, hq, h.o1, h.o2, h.o3, h.k1, h.k2, h.k3⟩
theorem viewTo_few {v : Int} {j b : Nat} {l : List NV} (h : ∀ f ∈ l, f.len ≤ b) : ∀ f ∈ viewTo v j l, f.len ≤ b := by
  intro f hf
  unfold viewTo at hf
  rcases List.mem_append.1 hf with hf | hf
  · obtain ⟨g, hg, rfl⟩ := List.mem_map.1 hf
    exact h g (List.mem_of_mem_take hg)
  · exact h f (List.mem_of_mem_drop hf)

set_option maxRecDepth 100000 in
theorem ref09_known (v : Int) (h1 : 1 ≤ v) (h3 : v ≤ 3) (w : World) : Calls Try.prog 81 #[.int .i64 v] w fun e w' => e = .returned (.bool true) ∧ w = w' := by
  go_enter Try.func81, Try.ntmps81
  go_wp2
  go_ret
  exact ⟨rfl, rfl⟩
set_option maxRecDepth 100000 in
set_option maxHeartbeats 3200000 in
theorem ref09_View (s : KV) (v : Int) (w : World) (hs : s.Ok w) (fs : s.Few) (f1 : s.n1 ≤ 100000) (f2 : s.n2 ≤ 100000) (f3 : s.n3 ≤ 100000) (f4 : ∀ f ∈ s.sns, f.len ≤ 100000) (h1 : 1 ≤ v) (h3 : v ≤ 3) :
    Calls Try.prog 38 #[s.val, .int .i64 v] w (ViewPost v s w) := by
  have HE : Hid (∀ (W : World) (e : Ending), ViewPost v s w e W ↔ ∃ t : KV, e = .returned (.tuple #[t.val, .int .i64 (if kmay s 3 = 0 then 0 else 1)]) ∧ t.Ok W ∧ t.Few ∧ (kmay s 3 = 0 → kSame t (viewK v s) = true) ∧ Ext w W) := Lib.hid fun _ _ => Iff.rfl
  have HM := Lib.hid (fun (W : World) (h : Ext w W) => ref07_May s 3 _ W (hs.ext h) fs.n1 fs.n2 fs.n3 fs.ch rfl)
  rw [kmayR_eq s 3 _ hs.t3.len rfl] at HM
  have HCP := Lib.hid (fun (W : World) (h : Ext w W) => ref07_Copy s W (hs.ext h) f1 f2 f3 f4)
  have HKN := Lib.hid (fun W => ref09_known v h1 h3 W)
  have HFS := Lib.hid fs
  have HVS := Lib.hid (fun (t : KV) (l : List NV) (h : AsK s t) (hl : l = t.sns.map (viewN v)) => viewK_s (v := v) h hl)
  generalize ViewPost v s w = POST at *
  generalize kmay s 3 = em at *
  generalize viewK v s = VK at *
  clear fs f1 f2 f3 f4
  have hB := (Blk.new w 26 [.int .i64 s.ver, .int .i64 s.next, .int .i64 s.keep, .int .i64 s.quota, .slice s.A1 s.n1 s.c1, .slice s.A2 s.n2 s.c2, .slice s.A3 s.n3 s.c3]).alloc (.cells #[.int .i64 0, .int .i64 0, .int .i64 0, .int .i64 0, .slice none 0 0, .slice none 0 0, .slice none 0 0] 26)
  have hZ := Blk.new (w.alloc (.cells #[.int .i64 s.ver, .int .i64 s.next, .int .i64 s.keep, .int .i64 s.quota, .slice s.A1 s.n1 s.c1, .slice s.A2 s.n2 s.c2, .slice s.A3 s.n3 s.c3] 26)) 26 [.int .i64 0, .int .i64 0, .int .i64 0, .int .i64 0, .slice none 0 0, .slice none 0 0, .slice none 0 0]
  have xw : Ext w ((w.alloc (.cells #[.int .i64 s.ver, .int .i64 s.next, .int .i64 s.keep, .int .i64 s.quota, .slice s.A1 s.n1 s.c1, .slice s.A2 s.n2 s.c2, .slice s.A3 s.n3 s.c3] 26)).alloc (.cells #[.int .i64 0, .int .i64 0, .int .i64 0, .int .i64 0, .slice none 0 0, .slice none 0 0, .slice none 0 0] 26)) := ((Ext.refl w).alloc _).alloc _
  have hzw : w.heap.size + 2 ≤ ((w.alloc (.cells #[.int .i64 s.ver, .int .i64 s.next, .int .i64 s.keep, .int .i64 s.quota, .slice s.A1 s.n1 s.c1, .slice s.A2 s.n2 s.c2, .slice s.A3 s.n3 s.c3] 26)).alloc (.cells #[.int .i64 0, .int .i64 0, .int .i64 0, .int .i64 0, .slice none 0 0, .slice none 0 0, .slice none 0 0] 26)).heap.size := by simp
  rw [show (w.alloc (.cells #[.int .i64 s.ver, .int .i64 s.next, .int .i64 s.keep, .int .i64 s.quota, .slice s.A1 s.n1 s.c1, .slice s.A2 s.n2 s.c2, .slice s.A3 s.n3 s.c3] 26)).heap.size = w.heap.size + 1 by simp] at hZ
  clear hs
  unfold KV.val at HM HCP ⊢
  go_enter Try.func38, Try.ntmps38
  go_upto_region 1 with fail
  generalize ((w.alloc (.cells #[.int .i64 s.ver, .int .i64 s.next, .int .i64 s.keep, .int .i64 s.quota, .slice s.A1 s.n1 s.c1, .slice s.A2 s.n2 s.c2, .slice s.A3 s.n3 s.c3] 26)).alloc (.cells #[.int .i64 0, .int .i64 0, .int .i64 0, .int .i64 0, .slice none 0 0, .slice none 0 0, .slice none 0 0] 26)) = W0 at *
  go_wp2_with fail
  refine (HKN.out _).mono ?_
  rintro e w1 ⟨rfl, rfl⟩
  have d0 := hB.cell 0
  have d1 := hB.cell 1
  have d2 := hB.cell 2
  have d3 := hB.cell 3
  have d4 := hB.cell 4
  have d5 := hB.cell 5
  have d6 := hB.cell 6
  simp only [List.getElem?_cons_zero, List.getElem?_cons_succ] at d0 d1 d2 d3 d4 d5 d6
  clear HKN
  go_wp2_with fail
  refine (HM.out _ xw).mono ?_
  rintro e w1 ⟨rfl, x1⟩
  replace hB := hB.ext x1
  replace hZ := hZ.ext x1
  replace xw := xw.trans x1
  replace hzw := Nat.le_trans hzw x1.size
  have xw1_le := xw.size
  have hz1 := hzw
  clear d0 d1 d2 d3 d4 d5 d6 HM x1
  by_cases hem : em = 0
  case neg =>
    have hb := bne_t (show ((em : Nat) : Int) ≠ 0 by omega)
    have z0 := hZ.cell 0
    have z1 := hZ.cell 1
    have z2 := hZ.cell 2
    have z3 := hZ.cell 3
    have z4 := hZ.cell 4
    have z5 := hZ.cell 5
    have z6 := hZ.cell 6
    simp only [List.getElem?_cons_zero, List.getElem?_cons_succ] at z0 z1 z2 z3 z4 z5 z6
    have q0 := hZ.frozen 0
    have q1 := hZ.frozen 1
    have q2 := hZ.frozen 2
    have q3 := hZ.frozen 3
    have q4 := hZ.frozen 4
    have q5 := hZ.frozen 5
    have q6 := hZ.frozen 6
    have HXW := Lib.hid xw
    have HZZ := Lib.hid hZ
    have HEM := Lib.hid hem
    clear hB hZ xw hem HCP HVS
    go_wp2_with fail
    refine bodyPost_ret (v := .tuple #[.agg #[.int .i64 0, .int .i64 0, .int .i64 0, .int .i64 0, .slice none 0 0, .slice none 0 0, .slice none 0 0], .int .i64 1]) (by simp [results, Try.results38, go_sem, z0, z1, z2, z3, z4, z5, z6]) rfl ?_
    refine (HE.out _ _).2 ⟨⟨0, 0, 0, 0, none, 0, 0, [], none, 0, 0, [], none, 0, 0, []⟩, by rw [if_neg HEM.out]; rfl, ⟨i64_0, i64_0, i64_0, i64_0, Ts.nil_ _ _ (by omega), Nat.le_refl _, Nat.zero_le _, Ts.nil_ _ _ (by omega), Nat.le_refl _, Nat.zero_le _, Ts.nil_ _ _ (by omega), Nat.le_refl _, Nat.zero_le _⟩, ⟨Nat.zero_le _, Nat.zero_le _, Nat.zero_le _, by simp⟩, fun h => absurd h HEM.out, ?_⟩
    repeat (refine Ext.setCell ?_ (by simp) _)
    exact HXW.out
  case pos =>
    subst hem
    have d0 := hB.cell 0
    have d1 := hB.cell 1
    have d2 := hB.cell 2
    have d3 := hB.cell 3
    have d4 := hB.cell 4
    have d5 := hB.cell 5
    have d6 := hB.cell 6
    simp only [List.getElem?_cons_zero, List.getElem?_cons_succ] at d0 d1 d2 d3 d4 d5 d6
    go_wp2_with fail
    refine (HCP.out _ xw).mono ?_
    rintro e w2 ⟨t, rfl, hown, hask, x2⟩
    replace hZ := hZ.ext x2
    replace xw := xw.trans x2
    replace hzw := Nat.le_trans hzw x2.size
    clear d0 d1 d2 d3 d4 d5 d6 HCP hB x2
    go_upto_region 4 with fail
    have hfew := hask.few HFS.out
    have hO := Blk.new w2 26 [.int .i64 t.ver, .int .i64 t.next, .int .i64 t.keep, .int .i64 t.quota, .slice t.A1 t.n1 t.c1, .slice t.A2 t.n2 t.c2, .slice t.A3 t.n3 t.c3]
    have xa := (Ext.refl w2).alloc (.cells #[.int .i64 t.ver, .int .i64 t.next, .int .i64 t.keep, .int .i64 t.quota, .slice t.A1 t.n1 t.c1, .slice t.A2 t.n2 t.c2, .slice t.A3 t.n3 t.c3] 26)
    replace hown := hown.ext xa
    replace hZ := hZ.ext xa
    replace xw := xw.trans xa
    clear xa
    have hgz := hzw
    generalize w2.alloc (.cells #[.int .i64 t.ver, .int .i64 t.next, .int .i64 t.keep, .int .i64 t.quota, .slice t.A1 t.n1 t.c1, .slice t.A2 t.n2 t.c2, .slice t.A3 t.n3 t.c3] 26) = W3 at *
    generalize w2.heap.size = g at hO hgz ⊢
    have hlen := hown.len3
    have HAK := Lib.hid hask
    obtain ⟨ver, next, keep, quota, A1, n1, c1, ses, A2, n2, c2, ops, A3, n3, c3, sns⟩ := t
    have hn3 := hfew.n3
    have hn1 := hfew.n1
    have hn2 := hfew.n2
    have hch := hfew.ch
    dsimp only at hO hlen hn1 hn2 hn3 hch ⊢
    have HCH := Lib.hid hch
    clear hfew hch
    have H0 := Lib.hid (And.intro hown (And.intro hO (And.intro hZ xw)))
    clear hown hask hO hZ xw hzw
    go_wp2_with fail
    go_loopw [7] (fun i wr => ∃ j : Nat, i = .int .i64 j ∧ j ≤ n3 ∧ OwnK wr w1.heap.size (toK ⟨ver, next, keep, quota, A1, n1, c1, ses, A2, n2, c2, ops, A3, n3, c3, sns⟩ (viewTo v j sns)) ∧ Blk wr g 26 [.int .i64 ver, .int .i64 next, .int .i64 keep, .int .i64 quota, .slice A1 n1 c1, .slice A2 n2 c2, .slice A3 n3 c3] ∧ Blk wr (w.heap.size + 1) 26 [.int .i64 0, .int .i64 0, .int .i64 0, .int .i64 0, .slice none 0 0, .slice none 0 0, .slice none 0 0] ∧ Ext w wr) (fun i _ => n3 - (intOf i).toNat)
    case atStart => exact ⟨0, rfl, by omega, by have := H0.out.1; simpa [viewTo, toK] using this, H0.out.2.1, H0.out.2.2.1, H0.out.2.2.2⟩
    case round =>
      clear H0
      obtain ⟨j, rfl, hj, hown, hO, hZ, hx⟩ := hrel
      have d0 := hO.cell 0
      have d1 := hO.cell 1
      have d2 := hO.cell 2
      have d3 := hO.cell 3
      have d4 := hO.cell 4
      have d5 := hO.cell 5
      have d6 := hO.cell 6
      simp only [List.getElem?_cons_zero, List.getElem?_cons_succ] at d0 d1 d2 d3 d4 d5 d6
      by_cases hjn : j < n3
      · have hjl : j < sns.length := by omega
        obtain ⟨gs, e3, hgs⟩ := hown.at3 (by show 0 < n3; omega)
        unfold toK at e3
        dsimp only at e3
        subst e3
        have hvl : j < (viewTo v j sns).length := by rw [viewTo_len]; exact hjl
        have hvg := viewTo_get v j sns hjl hvl
        obtain ⟨p3, c3'⟩ := hown.cellN rfl hvl (k := 3) (by omega)
        obtain ⟨p4, c4'⟩ := hown.cellN rfl hvl (k := 4) (by omega)
        rw [hvg] at c3' c4'
        replace c3' : wr.cell? ⟨gs, j * 5 + 3, none⟩ = some (.bool sns[j].held) := c3'
        replace c4' : wr.cell? ⟨gs, j * 5 + 4, none⟩ = some (.string sns[j].tag) := c4'
        have hne := hown.ne_ rfl hO
        have hne2 := hown.ne_ rfl hZ
        have HV0 := Lib.hid (fun h3 => hown.view0 h3)
        have HV1 := Lib.hid (fun h2 h3 => hown.view1 rfl hjl h2 h3)
        have HV2 := Lib.hid (fun h2 => hown.view2 rfl hjl h2)
        generalize sns[j] = f at *
        have hj0 : (0 : Int) ≤ j := by omega
        have hj1 : (j : Int) < n3 := by omega
        have HO := Lib.hid hO
        have HZ := Lib.hid hZ
        have HX := Lib.hid hx
        have hgw : w.heap.size ≤ gs := by have := xw1_le; omega
        clear hown hO hZ hx hvg hvl
        by_cases h2 : v < 2
        · have h3' : v < 3 := by omega
          go_wp2_with fail
          go_roundw
          case rel => exact ⟨j + 1, val_int (by omega), by omega, HV2.out h2, (HO.out.far (p := ⟨gs, j * 5 + 3, none⟩) hne _).far (p := ⟨gs, j * 5 + 4, none⟩) hne _, (HZ.out.far (p := ⟨gs, j * 5 + 3, none⟩) hne2 _).far (p := ⟨gs, j * 5 + 4, none⟩) hne2 _, (HX.out.setCell (p := ⟨gs, j * 5 + 3, none⟩) hgw _).setCell (p := ⟨gs, j * 5 + 4, none⟩) hgw _⟩
          case measure => simp [intOf]; omega
        · by_cases h3' : v < 3
          · go_wp2_with fail
            go_roundw
            case rel => exact ⟨j + 1, val_int (by omega), by omega, HV1.out h2 h3', HO.out.far (p := ⟨gs, j * 5 + 4, none⟩) hne _, HZ.out.far (p := ⟨gs, j * 5 + 4, none⟩) hne2 _, HX.out.setCell (p := ⟨gs, j * 5 + 4, none⟩) hgw _⟩
            case measure => simp [intOf]; omega
          · go_wp2_with fail
            go_roundw
            case rel => exact ⟨j + 1, val_int (by omega), by omega, HV0.out h3', HO.out, HZ.out, HX.out⟩
            case measure => simp [intOf]; omega
      · obtain rfl : j = n3 := by omega
        clear d0 d1 d2 d3 d4 d5
        go_upto_region 11 with fail
        clear d6
        have hg2 : w.heap.size + 1 ≠ g := by omega
        by_cases h3q : v < 3
        · have fq := hO.frozen 3
          have hO2 := hO.set_ 3 (.int .i64 0)
          have hZ2 := hZ.far (p := ⟨g, 3, none⟩) hg2 (.int .i64 0)
          simp only [List.set_cons_succ, List.set_cons_zero] at hO2
          have d0 := hO.cell 0
          have d1 := hO.cell 1
          have d2 := hO.cell 2
          have d3 := hO.cell 3
          have d4 := hO.cell 4
          have d5 := hO.cell 5
          have d6 := hO.cell 6
          simp only [List.getElem?_cons_zero, List.getElem?_cons_succ] at d0 d1 d2 d3 d4 d5 d6
          go_upto_region 13 with fail
          clear d0 d1 d2 d3 d4 d5 d6 fq
          have d0 := hO2.cell 0
          have d1 := hO2.cell 1
          have d2 := hO2.cell 2
          have d3 := hO2.cell 3
          have d4 := hO2.cell 4
          have d5 := hO2.cell 5
          have d6 := hO2.cell 6
          simp only [List.getElem?_cons_zero, List.getElem?_cons_succ] at d0 d1 d2 d3 d4 d5 d6
          have z0 := hZ2.cell 0
          have z1 := hZ2.cell 1
          have z2 := hZ2.cell 2
          have z3 := hZ2.cell 3
          have z4 := hZ2.cell 4
          have z5 := hZ2.cell 5
          have z6 := hZ2.cell 6
          simp only [List.getElem?_cons_zero, List.getElem?_cons_succ] at z0 z1 z2 z3 z4 z5 z6
          have q0 := hZ2.frozen 0
          have q1 := hZ2.frozen 1
          have q2 := hZ2.frozen 2
          have q3 := hZ2.frozen 3
          have q4 := hZ2.frozen 4
          have q5 := hZ2.frozen 5
          have q6 := hZ2.frozen 6
          have HOW : Hid (OwnK (put7 (wr.setCell ⟨g, 3, none⟩ (.int .i64 0)) (w.heap.size + 1) (.int .i64 ver) (.int .i64 next) (.int .i64 keep) (.int .i64 0) (.slice A1 n1 c1) (.slice A2 n2 c2) (.slice A3 j c3)) w1.heap.size (toK ⟨ver, next, keep, 0, A1, n1, c1, ses, A2, n2, c2, ops, A3, j, c3, sns⟩ (viewTo v j sns))) := Lib.hid (OwnK.put7 (OwnK.quota (hown.farS hO (.int .i64 0)) i64_0) (by omega) (.int .i64 ver) (.int .i64 next) (.int .i64 keep) (.int .i64 0) (.slice A1 n1 c1) (.slice A2 n2 c2) (.slice A3 j c3))
          have HXW : Hid (Ext w (put7 (wr.setCell ⟨g, 3, none⟩ (.int .i64 0)) (w.heap.size + 1) (.int .i64 ver) (.int .i64 next) (.int .i64 keep) (.int .i64 0) (.slice A1 n1 c1) (.slice A2 n2 c2) (.slice A3 j c3))) := Lib.hid ((hx.setCell (p := ⟨g, 3, none⟩) (by show w.heap.size ≤ g; omega) (.int .i64 0)).st7 (by omega) (.int .i64 ver) (.int .i64 next) (.int .i64 keep) (.int .i64 0) (.slice A1 n1 c1) (.slice A2 n2 c2) (.slice A3 j c3))
          have HKS : Hid (kSame (toK ⟨ver, next, keep, 0, A1, n1, c1, ses, A2, n2, c2, ops, A3, j, c3, sns⟩ (viewTo v j sns)) VK = true) := Lib.hid (by
            have := HVS.out _ (viewTo v j sns) HAK.out (by show viewTo v j sns = sns.map (viewN v); rw [← hlen, viewTo_all])
            unfold toK at this ⊢
            rw [if_pos h3q] at this
            exact this)
          clear hown hO hZ hx HVS HAK
          go_wp2_with fail
          refine bodyPost_ret (v := .tuple #[.agg #[.int .i64 ver, .int .i64 next, .int .i64 keep, .int .i64 0, .slice A1 n1 c1, .slice A2 n2 c2, .slice A3 j c3], .int .i64 0]) (by simp [results, Try.results38, go_sem, z0, z1, z2, z3, z4, z5, z6]) rfl ?_
          exact (HE.out _ _).2 ⟨_, by rw [if_pos trivial]; rfl, HOW.out.ok, ⟨hn1, hn2, hn3, viewTo_few HCH.out⟩, fun _ => HKS.out, HXW.out⟩
        · have hq0 : True := trivial
          have d0 := hO.cell 0
          have d1 := hO.cell 1
          have d2 := hO.cell 2
          have d3 := hO.cell 3
          have d4 := hO.cell 4
          have d5 := hO.cell 5
          have d6 := hO.cell 6
          simp only [List.getElem?_cons_zero, List.getElem?_cons_succ] at d0 d1 d2 d3 d4 d5 d6
          have z0 := hZ.cell 0
          have z1 := hZ.cell 1
          have z2 := hZ.cell 2
          have z3 := hZ.cell 3
          have z4 := hZ.cell 4
          have z5 := hZ.cell 5
          have z6 := hZ.cell 6
          simp only [List.getElem?_cons_zero, List.getElem?_cons_succ] at z0 z1 z2 z3 z4 z5 z6
          have q0 := hZ.frozen 0
          have q1 := hZ.frozen 1
          have q2 := hZ.frozen 2
          have q3 := hZ.frozen 3
          have q4 := hZ.frozen 4
          have q5 := hZ.frozen 5
          have q6 := hZ.frozen 6
          have HOW : Hid (OwnK (put7 wr (w.heap.size + 1) (.int .i64 ver) (.int .i64 next) (.int .i64 keep) (.int .i64 quota) (.slice A1 n1 c1) (.slice A2 n2 c2) (.slice A3 j c3)) w1.heap.size (toK ⟨ver, next, keep, quota, A1, n1, c1, ses, A2, n2, c2, ops, A3, j, c3, sns⟩ (viewTo v j sns))) := Lib.hid (OwnK.put7 hown (by omega) (.int .i64 ver) (.int .i64 next) (.int .i64 keep) (.int .i64 quota) (.slice A1 n1 c1) (.slice A2 n2 c2) (.slice A3 j c3))
          have HXW : Hid (Ext w (put7 wr (w.heap.size + 1) (.int .i64 ver) (.int .i64 next) (.int .i64 keep) (.int .i64 quota) (.slice A1 n1 c1) (.slice A2 n2 c2) (.slice A3 j c3))) := Lib.hid (hx.st7 (by omega) (.int .i64 ver) (.int .i64 next) (.int .i64 keep) (.int .i64 quota) (.slice A1 n1 c1) (.slice A2 n2 c2) (.slice A3 j c3))
          have HKS : Hid (kSame (toK ⟨ver, next, keep, quota, A1, n1, c1, ses, A2, n2, c2, ops, A3, j, c3, sns⟩ (viewTo v j sns)) VK = true) := Lib.hid (by
            have := HVS.out _ (viewTo v j sns) HAK.out (by show viewTo v j sns = sns.map (viewN v); rw [← hlen, viewTo_all])
            unfold toK at this ⊢
            rw [if_neg h3q] at this
            exact this)
          clear hown hO hZ hx HVS HAK
          go_wp2_with fail
          refine bodyPost_ret (v := .tuple #[.agg #[.int .i64 ver, .int .i64 next, .int .i64 keep, .int .i64 quota, .slice A1 n1 c1, .slice A2 n2 c2, .slice A3 j c3], .int .i64 0]) (by simp [results, Try.results38, go_sem, z0, z1, z2, z3, z4, z5, z6]) rfl ?_
          exact (HE.out _ _).2 ⟨_, by rw [if_pos trivial]; rfl, HOW.out.ok, ⟨hn1, hn2, hn3, viewTo_few HCH.out⟩, fun _ => HKS.out, HXW.out⟩
end Go.Proofs.Ytiildgoaiookhaa
