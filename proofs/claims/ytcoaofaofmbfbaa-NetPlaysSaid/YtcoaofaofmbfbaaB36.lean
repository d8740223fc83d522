/- Words and walks that the last text of this claim stands on: RnA, RnB, RnC, RnD, RnE, RnG. No condition. -/
import Derived.Test.YtcoaofaofmbfbaaB33
import Derived.Test.YtcoaofaofmbfbaaB01
import Derived.Test.YtcoaofaofmbfbaaB25
import Derived.Test.YtcoaofaofmbfbaaB24
/- The document's net in memory; the walks of its Bytes, gone, Drop. -/
namespace Go.Proofs.Ytcoaofaofmbfbaa
open Go.RowKit

theorem mask_set {G : Nat → Bool} {g : Nat} (h : G g = true) (w : World) (i : Nat) (u : Value) : mask G (w.setCell ⟨g, i, none⟩ u) = mask G w := by
  unfold mask World.setCell
  congr 1
  apply Array.ext_getElem?
  intro k
  simp only [Array.getElem?_mapIdx, Array.getElem?_modify]
  by_cases hk : g = k
  · subst hk
    rw [if_pos rfl]
    cases w.heap[g]? with
    | none => rfl
    | some o => simp [h]
  · rw [if_neg hk]
/-- the document's net in memory at the block g; of what it holds no block is named by G -/
structure RNet (w : World) (G : Nat → Bool) (g : Nat) (x : NetV) : Prop where
  blk : Blk w g 68 [.slice x.A x.n x.c, .int .i64 x.sent, .int .i64 x.taken, .int .i64 x.lost]
  gG : G g = true
  rd : Rd (mask G w) x.A x.n 1 (x.l.map BSV.val)
  le : x.n ≤ x.c
  cap : x.c ≤ maxLen
  el : ∀ y ∈ x.l, Bs (mask G w) y.A y.len y.b ∧ y.len ≤ y.cap ∧ y.cap ≤ maxLen ∧ y.len ≤ 16384
  few : x.n ≤ 256
  s0 : 0 ≤ x.sent ∧ x.sent ≤ 1000000000
  t0 : 0 ≤ x.taken ∧ x.taken ≤ 1000000000
  l0 : 0 ≤ x.lost ∧ x.lost ≤ 1000000000
theorem RNet.len {w : World} {G : Nat → Bool} {g : Nat} {x : NetV} (h : RNet w G g x) : x.l.length = x.n := by have := h.rd.1; simpa using this
theorem RNet.ub {w : World} {G : Nat → Bool} {g : Nat} {x : NetV} (h : RNet w G g x) : g < w.heap.size := h.blk.lt
theorem RNet.fr {w w' : World} {F G G' : Nat → Bool} {g : Nat} {x : NetV} (h : RNet w G g x) (hf : Fr F w w') (hFG : ∀ k, F k = true → G k = true) (hg : F g = false) (hG : ∀ k, k < w.heap.size → G' k = G k) : RNet w' G' g x := by
  have hm : Ext (mask G w) (mask G' w') := (hf.mono fun k _ hk => hFG k hk).masks hG
  exact ⟨h.blk.fr hf hg, by rw [hG g h.ub]; exact h.gG, h.rd.ext hm, h.le, h.cap, fun y hy => ⟨(h.el y hy).1.ext hm, (h.el y hy).2⟩, h.few, h.s0, h.t0, h.l0⟩
theorem RNet.ext {w w' : World} {G : Nat → Bool} {g : Nat} {x : NetV} (h : RNet w G g x) (he : Ext w w') : RNet w' G g x :=
  h.fr (F := fun _ => false) (Fr.of_ext he _) (fun _ hk => by cases hk) rfl (fun _ _ => rfl)
theorem RNet.rdw {w : World} {G : Nat → Bool} {g : Nat} {x : NetV} (h : RNet w G g x) : Rd w x.A x.n 1 (x.l.map BSV.val) := Rd.unmask h.rd
theorem RNet.bs {w : World} {G : Nat → Bool} {g : Nat} {x : NetV} (h : RNet w G g x) {y : BSV} (hy : y ∈ x.l) : Bs w y.A y.len y.b := Rd.unmask (h.el y hy).1
theorem RNet.cells {w : World} {G : Nat → Bool} {g : Nat} {x : NetV} (h : RNet w G g x) : w.cell? ⟨g, 0, none⟩ = some (.slice x.A x.n x.c) ∧ w.cell? ⟨g, 1, none⟩ = some (.int .i64 x.sent) ∧ w.cell? ⟨g, 2, none⟩ = some (.int .i64 x.taken) ∧ w.cell? ⟨g, 3, none⟩ = some (.int .i64 x.lost) :=
  ⟨h.blk.cell 0, h.blk.cell 1, h.blk.cell 2, h.blk.cell 3⟩
theorem RNet.at_ {w : World} {G : Nat → Bool} {g : Nat} {x : NetV} (h : RNet w G g x) {i : Nat} (hi : i < x.n) : ∃ b off, x.A = some ⟨b, off, none⟩ ∧ w.cell? ⟨b, off + i, none⟩ = some (x.l[i]'(by rw [h.len]; exact hi)).val := by
  obtain ⟨b, off, e, _, hc⟩ := h.rdw.2 (by omega)
  refine ⟨b, off, e, hc i _ ?_⟩
  rw [List.getElem?_map, List.getElem?_eq_getElem (by rw [h.len]; exact hi)]; rfl
theorem RNet.len_p {w : World} {G : Nat → Bool} {g : Nat} {x : NetV} (h : RNet w G g x) : x.p.row.length = x.n := by
  rw [show x.p.row = x.l.map BSV.b from rfl, List.length_map, h.len]
theorem RNet.setN {w : World} {G : Nat → Bool} {g : Nat} {x : NetV} (h : RNet w G g x) (i : Nat) (v : Int) (h0 : 0 ≤ v ∧ v ≤ 1000000000) :
    RNet (w.setCell ⟨g, 1, none⟩ (.int .i64 v)) G g { x with sent := v } ∧ RNet (w.setCell ⟨g, 2, none⟩ (.int .i64 v)) G g { x with taken := v } ∧ RNet (w.setCell ⟨g, 3, none⟩ (.int .i64 v)) G g { x with lost := v } ∧ Fr (fun k => k == g) w (w.setCell ⟨g, i, none⟩ (.int .i64 v)) :=
  ⟨⟨h.blk.set_ 1 _, h.gG, by rw [mask_set h.gG]; exact h.rd, h.le, h.cap, fun y hy => by rw [mask_set h.gG]; exact h.el y hy, h.few, h0, h.t0, h.l0⟩,
   ⟨h.blk.set_ 2 _, h.gG, by rw [mask_set h.gG]; exact h.rd, h.le, h.cap, fun y hy => by rw [mask_set h.gG]; exact h.el y hy, h.few, h.s0, h0, h.l0⟩,
   ⟨h.blk.set_ 3 _, h.gG, by rw [mask_set h.gG]; exact h.rd, h.le, h.cap, fun y hy => by rw [mask_set h.gG]; exact h.el y hy, h.few, h.s0, h.t0, h0⟩,
   Fr.setCell w (p := ⟨g, i, none⟩) (by simp) _⟩
theorem own_maskG {G : Nat → Bool} {w0 w : World} {e : TypeId} {size n : Nat} {v : Value} {xs : List Value} (h : w.ownsRow w0.heap.size e size v n xs) (hub : ∀ k, G k = true → k < w0.heap.size) : (mask G w).ownsRow w0.heap.size e size v n xs :=
  own_mask h fun k hk => by
    have := (h.lt k hk).1
    cases e : G k with
    | false => rfl
    | true => have := hub k e; omega
/-- a new row is stored -/
theorem RNet.put {w W : World} {G : Nat → Bool} {g : Nat} {x : NetV} (h : RNet w G g x) (hub : ∀ k, G k = true → k < w.heap.size) (he : Ext w W) {A : Option Addr} {n c : Nat} {l : List BSV} (hown : W.ownsRow w.heap.size 29 1 (.slice A n c) n (l.map BSV.val))
    (hel : ∀ y ∈ l, Bs (mask G W) y.A y.len y.b ∧ y.len ≤ y.cap ∧ y.cap ≤ maxLen ∧ y.len ≤ 16384) (hn : n ≤ 256) : RNet (W.setCell ⟨g, 0, none⟩ (.slice A n c)) G g { x with A := A, n := n, c := c, l := l } ∧ Fr (fun k => k == g) w (W.setCell ⟨g, 0, none⟩ (.slice A n c)) := by
  have hrd : Rd (mask G W) A n 1 (l.map BSV.val) := Rd.of_own (own_maskG hown hub)
  have hW := h.ext he
  exact ⟨⟨hW.blk.set_ 0 _, h.gG, by rw [mask_set h.gG]; exact hrd, (own_bounds hown).1, (own_bounds hown).2, fun y hy => by rw [mask_set h.gG]; exact hel y hy, hn, h.s0, h.t0, h.l0⟩, (Fr.of_ext he _).trans (Fr.setCell W (p := ⟨g, 0, none⟩) (by simp) _)⟩
set_option maxRecDepth 100000 in
set_option maxHeartbeats 800000 in
theorem ref21_Bytes (G : Nat → Bool) (g : Nat) (x : NetV) (i : Int) (w : World) (h : RNet w G g x) :
    Calls Try.prog 41 #[.pointer (some ⟨g, 0, none⟩), .int .i64 i] w fun e w' => ∃ A c, e = .returned (.slice A (x.at i).length c) ∧ Bs w A (x.at i).length (x.at i) ∧ w' = w := by
  obtain ⟨d0, _⟩ := h.cells
  rcases there_cases x.n i with ⟨h1, _, k, rfl, hk⟩ | ⟨h1, _⟩
  · have hkl : k < x.l.length := by rw [h.len]; exact hk
    have hy := at_there hk hkl
    obtain ⟨b, off, hA, hc⟩ := h.at_ hk
    have hbs := h.bs (List.getElem_mem hkl)
    rw [hy]
    generalize x.l[k] = y at *
    have hl := hbs.len
    have HB := Lib.hid hbs
    have HL := Lib.hid hl
    have hi0 : ¬ (k : Int) < 0 := by omega
    have hi1 : ¬ ((x.n : Int) ≤ k) := by omega
    have hi2 : (k : Int) < x.n := by omega
    have hi3 : (0 : Int) ≤ k := by omega
    rw [hA] at d0
    unfold BSV.val at hc
    clear h h1 hy hbs hl hA
    go_enter Try.func41, Try.ntmps41
    go_wp2_with fail
    go_ret
    exact ⟨y.A, ⟨y.cap, by rw [HL.out]; rfl⟩, by rw [HL.out]; exact HB.out, rfl⟩
  · have hy : x.at i = [] := by unfold NetV.at; rw [if_neg (by rw [h1]; simp)]
    rw [hy]
    clear hy
    by_cases h0 : i < 0
    · clear h h1
      go_enter Try.func41, Try.ntmps41
      go_wp2_with fail
      go_ret
      first | exact ⟨none, ⟨0, rfl⟩, Bs.nil_ _ _, rfl⟩ | exact ⟨none, 0, rfl, Bs.nil_ _ _, rfl⟩
    · have h2 : (x.n : Int) ≤ i := by
        unfold thereB at h1
        simp at h1
        have := h1 (by omega)
        omega
      clear h h1
      go_enter Try.func41, Try.ntmps41
      go_wp2_with fail
      go_ret
      first | exact ⟨none, ⟨0, rfl⟩, Bs.nil_ _ _, rfl⟩ | exact ⟨none, 0, rfl, Bs.nil_ _ _, rfl⟩
end Go.Proofs.Ytcoaofaofmbfbaa

/- The walks of the document's net: gone, Drop. -/
namespace Go.Proofs.Ytcoaofaofmbfbaa
open Go.RowKit

def GonePost (G : Nat → Bool) (g : Nat) (x : NetV) (i : Nat) (y : BSV) (w : World) (e : Ending) (w' : World) : Prop :=
  ∃ (A : Option Addr) (c : Nat), e = .returned y.val ∧ RNet w' G g { x with A := A, n := x.n - 1, c := c, l := x.l.eraseIdx i } ∧ Bs w' y.A y.len y.b ∧ Fr (fun k => k == g) w w'
set_option maxRecDepth 100000 in
set_option maxHeartbeats 1600000 in
theorem ref21_gone (G : Nat → Bool) (g : Nat) (x : NetV) (i : Nat) (w : World) (h : RNet w G g x) (hub : ∀ k, G k = true → k < w.heap.size) (hi : i < x.n) (hl : i < x.l.length) :
    Calls Try.prog 71 #[.pointer (some ⟨g, 0, none⟩), .int .i64 i] w (GonePost G g x i x.l[i] w) := by
  obtain ⟨d0, _⟩ := h.cells
  obtain ⟨b, off, hA, hc⟩ := h.at_ hi
  have hrd := h.rdw
  have hle := h.le
  have hcp := h.cap
  have hfew := h.few
  have hlen := h.len
  have hmem : x.l[i] ∈ x.l := List.getElem_mem hl
  have HPUT := Lib.hid (fun (W : World) (he : Ext w W) (A : Option Addr) (c : Nat) hown => (h.put hub he (A := A) (n := x.n - 1) (c := c) (l := x.l.eraseIdx i) hown (fun y hy => ⟨(h.el y (List.mem_of_mem_eraseIdx hy)).1.ext he.masks, (h.el y (List.mem_of_mem_eraseIdx hy)).2⟩) (by omega)))
  have HBS := Lib.hid (fun (W : World) (he : Ext w W) => ((h.ext he).bs hmem))
  have HBLK := Lib.hid h.blk
  have HGG := Lib.hid (fun (W : World) (he : Ext w W) (u : Value) => (Rd.unmask (show Rd (mask G (W.setCell ⟨g, 0, none⟩ u)) _ _ 1 _ from by rw [mask_set h.gG]; exact ((h.ext he).el _ hmem).1)))
  generalize x.l[i] = y at *
  have hi0 : (0 : Int) ≤ i := by omega
  have hi1 : (i : Int) < x.n := by omega
  rw [hA] at d0 hrd
  obtain ⟨A2, c2, hc2, hsl, hrdp⟩ := cut_from rowsT (some (⟨b, off, none⟩ : Addr)) (show i + 1 ≤ x.n by omega) hle ((i : Int) + 1) (by omega)
  have hwr : IntKind.i64.wrap ((i : Int) + 1) = (i : Int) + 1 := IntWalk.i64_in _ ⟨by omega, by omega⟩
  have hr1 : Rd w (some ⟨b, off, none⟩) i 1 ((x.l.take i).map BSV.val) := by
    have := hrd.part (lo := 0) (m := i) (by omega) (some ⟨b, off, none⟩) (fun _ b' o' e => by simpa using e)
    rw [List.map_take]
    simpa using this
  have hr2 : Rd w A2 (x.n - (i + 1)) 1 ((x.l.drop (i + 1)).map BSV.val) := by
    have := hrdp _ _ hrd
    rw [List.map_drop]; simpa using this
  have hkc : (i : Int) ≤ x.c := by omega
  have HR1 := Lib.hid hr1
  have HR2 := Lib.hid hr2
  have hE := (own_empty w.drew 29 1)
  have HLEN := Lib.hid hlen
  have hHA := Lib.hid hA
  unfold BSV.val at hc
  clear h hrd hrdp hr1 hr2 hlen hA hmem
  go_enter Try.func71, Try.ntmps71
  go_upto_region 2 with fail
  have hb0 : Blk (w.alloc (.cells #[] 29)) g 68 _ := HBLK.out.ext ((Ext.refl w).alloc _)
  have hd0' := hb0.cell 0
  simp only [List.getElem?_cons_zero] at hd0'
  rw [hHA.out] at hd0'
  go_region_law (first
    | (refine step_app rowsT (by omega) _ rfl rfl (by simp [Act.eval, Act.put]) hE (by first | (simp [Act.eval, Act.put]; rfl) | (simp [Act.eval, Act.put]; done)) ((HR1.out.ext (Ext.refl w).drew).alloc _) (bvs_cells _) (by unfold maxLen; omega) (by omega) (by simp) ?_; intro v3 w13 hown3 hg3 hat3; have x13 : Ext w w13 := Below.app (((Ext.refl w).drew).alloc _) hg3 (by simp) hE (Nat.le_refl _); have hr4 := HR2.out.ext x13; have hs13 : w.drew.heap.size ≤ w13.heap.size := x13.size; have hb13 := HBLK.out.ext x13; have d13 := hb13.cell 0; simp only [List.getElem?_cons_zero] at d13; rw [hHA.out] at d13)
    | (refine step_app rowsT (by omega) _ rfl rfl (by simp [Act.eval, Act.put]) hown3 (by first | (simp [Act.eval, Act.put]; rfl) | (simp [Act.eval, Act.put]; done)) hr4 (bvs_cells _) (by unfold maxLen; omega) (by omega) hs13 ?_; intro v5 w14 hown5 hg5 hat5; have x14 : Ext w w14 := Below.app x13 hg5 hs13 hown3 (Nat.le_refl _); obtain ⟨A5, c5, rfl, _⟩ := own_form hown5; have hb14 := HBLK.out.ext x14; have d14 := hb14.cell 0; have z14 := hb14.frozen 0; simp only [List.getElem?_cons_zero] at d14; rw [hHA.out] at d14))
  all_goals
    have hcnt : 0 + i + (x.n - (i + 1)) = x.n - 1 := by omega
    have hown6 : w14.ownsRow w.heap.size 29 1 (.slice A5 (x.n - 1) c5) (x.n - 1) ((x.l.eraseIdx i).map BSV.val) := by
      have h5 : w14.ownsRow w.heap.size 29 1 (.slice A5 (0 + i + (x.n - (i + 1))) c5) (0 + i + (x.n - (i + 1))) (([] ++ (x.l.take i).map BSV.val) ++ (x.l.drop (i + 1)).map BSV.val) := hown5
      rw [hcnt] at h5
      refine own_to h5 (Nat.le_refl _) rfl ?_
      rw [List.eraseIdx_eq_take_drop_succ, List.map_append]; rfl
    obtain ⟨p1, p2⟩ := HPUT.out w14 x14 A5 c5 hown6
    have HP1 := Lib.hid p1
    have HP2 := Lib.hid p2
    have HP3 := Lib.hid (HGG.out w14 x14 (.slice A5 (x.n - 1) c5))
    have HC := Lib.hid hcnt
    clear hown3 hg3 hat3 x13 hr4 hs13 hb13 d13 hown5 hg5 hat5 x14 hb14 d14 z14 hown6 p1 p2 hcnt hb0 hd0'
    go_wp2_with fail
    go_ret
    have e1 : i + (x.n - (i + 1)) = x.n - 1 := by omega
    simp only [e1]
    exact ⟨A5, c5, rfl, HP1.out, HP3.out, HP2.out⟩
end Go.Proofs.Ytcoaofaofmbfbaa

/- What is done to a net, without where it lies; the walk of the document's Drop. -/
namespace Go.Proofs.Ytcoaofaofmbfbaa
open Go.RowKit

def NetP.drop (p : NetP) (i : Int) : NetP := if thereB p.row.length i = true then ⟨p.row.eraseIdx i.toNat, p.sent, p.taken, p.lost + 1⟩ else p
def NetP.take (p : NetP) (i : Int) : NetP := if thereB p.row.length i = true then ⟨p.row.eraseIdx i.toNat, p.sent, p.taken + 1, p.lost⟩ else p
def NetP.turnB (p : NetP) (i q : Int) : Bool := thereB p.row.length i && (decide (0 ≤ q) && decide (q < (p.at i).length))
def NetP.turnC (p : NetP) (i q : Int) : Int := if p.turnB i q = true then 0 else 1
def NetP.turn (p : NetP) (i q b : Int) : NetP := if p.turnB i q = true then { p with row := p.row.set i.toNat (turnOf (p.at i) q.toNat b) } else p
theorem map_erase (l : List BSV) (i : Nat) : (l.eraseIdx i).map BSV.b = (l.map BSV.b).eraseIdx i := by
  rw [List.eraseIdx_eq_take_drop_succ, List.eraseIdx_eq_take_drop_succ, List.map_append, List.map_take, List.map_drop]
theorem drop_p {x : NetV} (h : x.l.length = x.n) (i : Int) : (x.drop i).p = x.p.drop i := by
  unfold NetP.drop NetV.drop
  rw [show x.p.row.length = x.n by rw [show x.p.row = x.l.map BSV.b from rfl, List.length_map, h]]
  split
  · show NetP.mk _ _ _ _ = NetP.mk _ _ _ _
    rw [show ({ x.erase i.toNat with lost := x.lost + 1 } : NetV).l = x.l.eraseIdx i.toNat from rfl, map_erase]; rfl
  · rfl
theorem takep_p {x : NetV} (h : x.l.length = x.n) (i : Int) : (x.take i).p = x.p.take i := by
  unfold NetP.take NetV.take
  rw [show x.p.row.length = x.n by rw [show x.p.row = x.l.map BSV.b from rfl, List.length_map, h]]
  split
  · show NetP.mk _ _ _ _ = NetP.mk _ _ _ _
    rw [show ({ x.erase i.toNat with taken := x.taken + 1 } : NetV).l = x.l.eraseIdx i.toNat from rfl, map_erase]; rfl
  · rfl
theorem at_p {x : NetV} (h : x.l.length = x.n) (i : Int) : x.p.at i = x.at i := by
  unfold NetP.at NetV.at
  rw [show x.p.row = x.l.map BSV.b from rfl, List.length_map, h, List.getElem?_map]
theorem turnp_p {x : NetV} (h : x.l.length = x.n) (i q b : Int) : (x.turn i q b).p = x.p.turn i q b ∧ turnC x i q = x.p.turnC i q := by
  have hl : x.p.row.length = x.n := by rw [show x.p.row = x.l.map BSV.b from rfl, List.length_map, h]
  have hB : x.p.turnB i q = turnB x i q := by unfold NetP.turnB turnB; rw [hl, at_p h]
  unfold NetP.turn NetP.turnC NetV.turn turnC
  rw [hB]
  refine ⟨?_, rfl⟩
  by_cases ht : turnB x i q = true
  · rw [if_pos ht, if_pos ht, at_p h]
    show NetP.mk _ _ _ _ = NetP.mk _ _ _ _
    congr 1
    show (x.l.set i.toNat _).map BSV.b = (x.l.map BSV.b).set i.toNat _
    rw [List.map_set]
  · rw [if_neg ht, if_neg ht]
theorem there_no {n : Nat} {i : Int} (h : thereB n i = false) (h0 : ¬ i < 0) : (n : Int) ≤ i := by
  unfold thereB at h
  simp at h
  have := h (by omega)
  omega
def RDropPost (G : Nat → Bool) (g : Nat) (x : NetV) (i : Int) (w : World) (e : Ending) (w' : World) : Prop :=
  ∃ x' : NetV, e = .returned (.int .i64 (thereC x.n i)) ∧ RNet w' G g x' ∧ x'.p = x.p.drop i ∧ Fr (fun k => k == g) w w'
set_option maxRecDepth 100000 in
set_option maxHeartbeats 1600000 in
theorem ref21_Drop (G : Nat → Bool) (g : Nat) (x : NetV) (i : Int) (w : World) (h : RNet w G g x) (hub : ∀ k, G k = true → k < w.heap.size) (hb : x.lost + 1 ≤ 1000000000) :
    Calls Try.prog 37 #[.pointer (some ⟨g, 0, none⟩), .int .i64 i] w (RDropPost G g x i w) := by
  have HE : Hid (∀ (W : World) (e : Ending), RDropPost G g x i w e W ↔ ∃ x' : NetV, e = .returned (.int .i64 (thereC x.n i)) ∧ RNet W G g x' ∧ x'.p = x.p.drop i ∧ Fr (fun k => k == g) w W) := Lib.hid fun _ _ => Iff.rfl
  obtain ⟨d0, _, _, d3⟩ := h.cells
  have z3 := h.blk.frozen 3
  rcases there_cases x.n i with ⟨h1, h2, k, rfl, hk⟩ | ⟨h1, h2⟩
  · have hkl : k < x.l.length := by rw [h.len]; exact hk
    obtain ⟨_, _, n3, f3⟩ := h.setN 3 (x.lost + 1) (by have := h.l0; omega)
    have HG := Lib.hid (ref21_gone G g { x with lost := x.lost + 1 } k _ n3 (fun q hq => by rw [show (w.setCell ⟨g, 3, none⟩ (.int .i64 (x.lost + 1))).heap.size = w.heap.size by simp [World.setCell]]; exact hub q hq) hk hkl)
    have HF := Lib.hid f3
    have HP : Hid (x.p.drop k = ⟨x.p.row.eraseIdx k, x.p.sent, x.p.taken, x.p.lost + 1⟩) := Lib.hid (by unfold NetP.drop; rw [h.len_p, if_pos h1]; rfl)
    have hl0 := h.l0
    have hi0 : ¬ (k : Int) < 0 := by omega
    have hi1 : ¬ ((x.n : Int) ≤ k) := by omega
    have hw : IntKind.i64.wrap (x.lost + 1) = x.lost + 1 := IntWalk.i64_in _ ⟨by omega, by omega⟩
    have HC := Lib.hid h2
    clear h h1 h2 n3 f3
    go_enter Try.func37, Try.ntmps37
    go_wp2_with fail
    refine HG.out.mono ?_
    rintro e w2 ⟨A2, c2, rfl, hN, _, hF⟩
    have HN := Lib.hid hN
    have HF2 := Lib.hid (HF.out.trans hF)
    clear hN hF HG
    go_wp2_with fail
    go_ret
    exact (HE.out _ _).2 ⟨_, by rw [HC.out]; rfl, HN.out, by rw [HP.out]; show NetP.mk _ _ _ _ = _; rw [map_erase]; rfl, HF2.out⟩
  · have HP : Hid (x.p.drop i = x.p) := Lib.hid (by unfold NetP.drop; rw [h.len_p, if_neg (by rw [h1]; simp)])
    have HH := Lib.hid h
    have HC := Lib.hid h2
    by_cases h0 : i < 0
    · clear h h1 h2
      go_enter Try.func37, Try.ntmps37
      go_wp2_with fail
      go_ret
      exact (HE.out _ _).2 ⟨x, by rw [HC.out]; rfl, HH.out, HP.out.symm, Fr.refl _ _⟩
    · have h3 := there_no h1 h0
      clear h h1 h2
      go_enter Try.func37, Try.ntmps37
      go_wp2_with fail
      go_ret
      exact (HE.out _ _).2 ⟨x, by rw [HC.out]; rfl, HH.out, HP.out.symm, Fr.refl _ _⟩
end Go.Proofs.Ytcoaofaofmbfbaa

/- The walk of the document's net's Take. (Printed by wip/tools/rntake.py.) -/
namespace Go.Proofs.Ytcoaofaofmbfbaa
open Go.RowKit

theorem mask_mask {G G' : Nat → Bool} (h : ∀ k, G k = true → G' k = true) (w : World) : mask G' w = mask G' (mask G w) := by
  unfold mask
  congr 1
  apply Array.ext_getElem?
  intro k
  simp only [Array.getElem?_mapIdx]
  cases w.heap[k]? with
  | none => rfl
  | some o =>
    cases e : G' k with
    | true => simp
    | false =>
      cases e2 : G k with
      | true => rw [h k e2] at e; cases e
      | false => simp
/-- a mask is made less -/
theorem RNet.less {w : World} {G G' : Nat → Bool} {g : Nat} {x : NetV} (h : RNet w G' g x) (hG : ∀ k, G k = true → G' k = true) (hg : G g = true) : RNet w G g x :=
  ⟨h.blk, hg, Rd.unmask (F := G') (by rw [← mask_mask hG]; exact h.rd), h.le, h.cap, fun y hy => ⟨Rd.unmask (F := G') (by rw [← mask_mask hG]; exact (h.el y hy).1), (h.el y hy).2⟩, h.few, h.s0, h.t0, h.l0⟩
/-- the result's cell is written -/
theorem RNet.st {w W W' : World} {G : Nat → Bool} {g : Nat} {x : NetV} (h : RNet W (fun q => G q || q == w.heap.size) g x) (hf : Fr (fun q => q == w.heap.size) W W') (hlt : g ≠ w.heap.size) (hg : G g = true) : RNet W' G g x :=
  (h.fr hf (fun k hk => by simp at hk; simp [hk]) (by simp [hlt]) (fun _ _ => rfl)).less (fun k hk => by simp [hk]) hg
def RTakePost (G : Nat → Bool) (g : Nat) (x : NetV) (i : Int) (w : World) (e : Ending) (w' : World) : Prop :=
  ∃ (lx : LV) (code : Nat) (x' : NetV), e = .returned (.tuple #[lx.val, .int .i64 code]) ∧ OwnX w' w.heap.size lx ∧ lx.n ≤ 20000 ∧ TakeRes x i lx code ∧ RNet w' G g x' ∧ x'.p = x.p.take i ∧ Fr (fun k => k == g) w w'
set_option maxRecDepth 100000 in
set_option maxHeartbeats 3200000 in
theorem ref21_Take (G : Nat → Bool) (g : Nat) (x : NetV) (i : Int) (w : World) (h : RNet w G g x) (hub : ∀ k, G k = true → k < w.heap.size) (hb : x.taken + 1 ≤ 1000000000) :
    Calls Try.prog 36 #[.pointer (some ⟨g, 0, none⟩), .int .i64 i] w (RTakePost G g x i w) := by
  have HE : Hid (∀ (W : World) (e : Ending), RTakePost G g x i w e W ↔ ∃ (lx : LV) (code : Nat) (x' : NetV), e = .returned (.tuple #[lx.val, .int .i64 code]) ∧ OwnX W w.heap.size lx ∧ lx.n ≤ 20000 ∧ TakeRes x i lx code ∧ RNet W G g x' ∧ x'.p = x.p.take i ∧ Fr (fun k => k == g) w W) := Lib.hid fun _ _ => Iff.rfl
  have hG := Blk.new w 26 [.int .i64 0, .int .i64 0, .int .i64 0, .int .i64 0, .int .i64 0, .int .i64 0, .int .i64 0, .int .i64 0, .bool false, .slice none 0 0]
  have xw : Ext w (w.alloc (.cells #[.int .i64 0, .int .i64 0, .int .i64 0, .int .i64 0, .int .i64 0, .int .i64 0, .int .i64 0, .int .i64 0, .bool false, .slice none 0 0] 26)) := (Ext.refl w).alloc _
  have hgw := h.ub
  have hgne : g ≠ w.heap.size := by omega
  have HLS := Lib.hid hgne
  have HgG := Lib.hid h.gG
  have hFg : (fun k => k == g) w.heap.size = false := by simp; omega
  have h0 : RNet (w.alloc (.cells #[.int .i64 0, .int .i64 0, .int .i64 0, .int .i64 0, .int .i64 0, .int .i64 0, .int .i64 0, .int .i64 0, .bool false, .slice none 0 0] 26)) (fun q => G q || q == w.heap.size) g x := h.fr (F := fun _ => false) (Fr.of_ext xw _) (fun _ hk => by cases hk) rfl (fun k hk => by simp; omega)
  have hub0 : ∀ k, (fun q => G q || q == w.heap.size) k = true → k < (w.alloc (.cells #[.int .i64 0, .int .i64 0, .int .i64 0, .int .i64 0, .int .i64 0, .int .i64 0, .int .i64 0, .int .i64 0, .bool false, .slice none 0 0] 26)).heap.size := fun k hk => by
    simp only [Bool.or_eq_true, beq_iff_eq] at hk
    have : (w.alloc (.cells #[.int .i64 0, .int .i64 0, .int .i64 0, .int .i64 0, .int .i64 0, .int .i64 0, .int .i64 0, .int .i64 0, .bool false, .slice none 0 0] 26)).heap.size = w.heap.size + 1 := by simp
    rcases hk with hk | hk
    · have := hub k hk; omega
    · omega
  have HF := Lib.hid (Fr.of_ext xw (fun k => k == g))
  obtain ⟨d0, _, d2, _⟩ := h0.cells
  have f2 := h0.blk.frozen 2
  rcases there_cases x.n i with ⟨h1, _, k, rfl, hk⟩ | ⟨h1, _⟩
  case inr =>
    have HX : Hid (x.p.take i = x.p) := Lib.hid (by unfold NetP.take; rw [h.len_p, if_neg (by rw [h1]; simp)])
    have HR : Hid (TakeRes x i zeroX 1) := Lib.hid (.inl ⟨h1, rfl, rfl⟩)
    have HH := Lib.hid h0
    have HUB := Lib.hid hub0
    by_cases hi0 : i < 0
    · clear h h0 h1 xw hub0 hub
      go_enter Try.func36, Try.ntmps36
      go_upto_region 1 with fail
      generalize hW0 : w.alloc (.cells #[.int .i64 0, .int .i64 0, .int .i64 0, .int .i64 0, .int .i64 0, .int .i64 0, .int .i64 0, .int .i64 0, .bool false, .slice none 0 0] 26) = W0 at *
      clear hW0
      have g0 := hG.cell 0
      have g1 := hG.cell 1
      have g2 := hG.cell 2
      have g3 := hG.cell 3
      have g4 := hG.cell 4
      have g5 := hG.cell 5
      have g6 := hG.cell 6
      have g7 := hG.cell 7
      have g8 := hG.cell 8
      have g9 := hG.cell 9
      simp only [List.getElem?_cons_zero, List.getElem?_cons_succ] at g0 g1 g2 g3 g4 g5 g6 g7 g8 g9
      have z0 := hG.frozen 0
      have z1 := hG.frozen 1
      have z2 := hG.frozen 2
      have z3 := hG.frozen 3
      have z4 := hG.frozen 4
      have z5 := hG.frozen 5
      have z6 := hG.frozen 6
      have z7 := hG.frozen 7
      have z8 := hG.frozen 8
      have z9 := hG.frozen 9
      have HGG := Lib.hid hG
      clear hG
      go_wp2_with fail
      refine bodyPost_ret (v := .tuple #[.agg #[.int .i64 0, .int .i64 0, .int .i64 0, .int .i64 0, .int .i64 0, .int .i64 0, .int .i64 0, .int .i64 0, .bool false, .slice none 0 0], .int .i64 1]) (by simp [results, Try.results36, go_sem, g0, g1, g2, g3, g4, g5, g6, g7, g8, g9]) rfl ?_
      exact (HE.out _ _).2 ⟨zeroX, 1, x, rfl, OwnX.zero _ _, Nat.zero_le _, HR.out, RNet.st (w := w) HH.out (Fr.st10 (w := W0) (g := w.heap.size) (.int .i64 0) (.int .i64 0) (.int .i64 0) (.int .i64 0) (.int .i64 0) (.int .i64 0) (.int .i64 0) (.int .i64 0) (.bool false) (.slice none 0 0)) HLS.out HgG.out, HX.out.symm, HF.out.new (Fr.st10 (w := W0) (g := w.heap.size) (.int .i64 0) (.int .i64 0) (.int .i64 0) (.int .i64 0) (.int .i64 0) (.int .i64 0) (.int .i64 0) (.int .i64 0) (.bool false) (.slice none 0 0)) (Nat.le_refl _)⟩

    · have hi1 := there_no h1 hi0
      clear h h0 h1 xw hub0 hub
      go_enter Try.func36, Try.ntmps36
      go_upto_region 1 with fail
      generalize hW0 : w.alloc (.cells #[.int .i64 0, .int .i64 0, .int .i64 0, .int .i64 0, .int .i64 0, .int .i64 0, .int .i64 0, .int .i64 0, .bool false, .slice none 0 0] 26) = W0 at *
      clear hW0
      have g0 := hG.cell 0
      have g1 := hG.cell 1
      have g2 := hG.cell 2
      have g3 := hG.cell 3
      have g4 := hG.cell 4
      have g5 := hG.cell 5
      have g6 := hG.cell 6
      have g7 := hG.cell 7
      have g8 := hG.cell 8
      have g9 := hG.cell 9
      simp only [List.getElem?_cons_zero, List.getElem?_cons_succ] at g0 g1 g2 g3 g4 g5 g6 g7 g8 g9
      have z0 := hG.frozen 0
      have z1 := hG.frozen 1
      have z2 := hG.frozen 2
      have z3 := hG.frozen 3
      have z4 := hG.frozen 4
      have z5 := hG.frozen 5
      have z6 := hG.frozen 6
      have z7 := hG.frozen 7
      have z8 := hG.frozen 8
      have z9 := hG.frozen 9
      have HGG := Lib.hid hG
      clear hG
      go_wp2_with fail
      refine bodyPost_ret (v := .tuple #[.agg #[.int .i64 0, .int .i64 0, .int .i64 0, .int .i64 0, .int .i64 0, .int .i64 0, .int .i64 0, .int .i64 0, .bool false, .slice none 0 0], .int .i64 1]) (by simp [results, Try.results36, go_sem, g0, g1, g2, g3, g4, g5, g6, g7, g8, g9]) rfl ?_
      exact (HE.out _ _).2 ⟨zeroX, 1, x, rfl, OwnX.zero _ _, Nat.zero_le _, HR.out, RNet.st (w := w) HH.out (Fr.st10 (w := W0) (g := w.heap.size) (.int .i64 0) (.int .i64 0) (.int .i64 0) (.int .i64 0) (.int .i64 0) (.int .i64 0) (.int .i64 0) (.int .i64 0) (.bool false) (.slice none 0 0)) HLS.out HgG.out, HX.out.symm, HF.out.new (Fr.st10 (w := W0) (g := w.heap.size) (.int .i64 0) (.int .i64 0) (.int .i64 0) (.int .i64 0) (.int .i64 0) (.int .i64 0) (.int .i64 0) (.int .i64 0) (.bool false) (.slice none 0 0)) (Nat.le_refl _)⟩

  have hkl : k < x.l.length := by rw [h.len]; exact hk
  have hat := at_there hk hkl
  have HX : Hid (x.p.take k = ⟨x.p.row.eraseIdx k, x.p.sent, x.p.taken + 1, x.p.lost⟩) := Lib.hid (by unfold NetP.take; rw [h.len_p, if_pos h1]; rfl)
  have HRS : Hid (∀ lx code, (∃ ms, IsTaken x.l[k].b lx ms code) → TakeRes x k lx code) := Lib.hid (fun lx code hh => .inr ⟨h1, by rw [hat]; exact hh⟩)
  have ht0 := h.t0
  obtain ⟨_, n2, _, fr2⟩ := h0.setN 2 (x.taken + 1) (by omega)
  have hszc : ∀ u, ((w.alloc (.cells #[.int .i64 0, .int .i64 0, .int .i64 0, .int .i64 0, .int .i64 0, .int .i64 0, .int .i64 0, .int .i64 0, .bool false, .slice none 0 0] 26)).setCell ⟨g, 2, none⟩ u).heap.size = (w.alloc (.cells #[.int .i64 0, .int .i64 0, .int .i64 0, .int .i64 0, .int .i64 0, .int .i64 0, .int .i64 0, .int .i64 0, .bool false, .slice none 0 0] 26)).heap.size := fun u => by simp [World.setCell]
  have HGN := Lib.hid (ref21_gone (fun q => G q || q == w.heap.size) g { x with taken := x.taken + 1 } k _ n2 (fun q hq => by rw [hszc]; exact hub0 q hq) hk hkl)
  have HYM := Lib.hid (h.el _ (List.getElem_mem hkl)).2
  have HF2 := Lib.hid (HF.out.trans fr2)
  have HG2 := Lib.hid (hG.fr (HF.out.trans fr2 |>.trans (Fr.refl _ _) |> fun _ => fr2) hFg)
  have hsz0 : w.heap.size < (w.alloc (.cells #[.int .i64 0, .int .i64 0, .int .i64 0, .int .i64 0, .int .i64 0, .int .i64 0, .int .i64 0, .int .i64 0, .bool false, .slice none 0 0] 26)).heap.size := by simp
  have hi0 : ¬ (k : Int) < 0 := by omega
  have hi1 : ¬ ((x.n : Int) ≤ k) := by omega
  have hwr : IntKind.i64.wrap (x.taken + 1) = x.taken + 1 := IntWalk.i64_in _ ⟨by omega, by omega⟩
  dsimp only at HGN
  generalize x.l[k] = y at *
  clear h h0 h1 xw hat hub0 hub HF hszc n2 fr2 hG hsz0
  go_enter Try.func36, Try.ntmps36
  go_upto_region 1 with fail
  generalize hW0 : w.alloc (.cells #[.int .i64 0, .int .i64 0, .int .i64 0, .int .i64 0, .int .i64 0, .int .i64 0, .int .i64 0, .int .i64 0, .bool false, .slice none 0 0] 26) = W0 at *
  clear hW0
  go_upto_region 4 with fail
  generalize W0.setCell ⟨g, 2, none⟩ (.int .i64 (x.taken + 1)) = W1 at *
  go_wp2_with fail
  refine HGN.out.mono ?_
  rintro e w2 ⟨A2, c2, rfl, hN2, hby, hF3⟩
  have hG3 := HG2.out.fr hF3 hFg
  have hFF := HF2.out.trans hF3
  have hym := HYM.out
  have HTK := Lib.hid (ref16_Take y.A y.len y.cap y.b w2 hby (by omega) hym.1)
  unfold BSV.val
  clear hby hF3 HGN HG2 HF2 hym
  go_wp2_with fail
  refine HTK.out.mono ?_
  rintro e w4 ⟨lx, AQ, nQ, cQ, Q, code, rfl, hox, _, _, _, hxn, hcase, x4⟩
  have HR := Lib.hid (HRS.out lx code ⟨Q, hcase⟩)
  have hN4 := hN2.ext x4
  have hFF4 := hFF.trans (Fr.of_ext x4 _)
  replace hG := hG3.ext x4
  have hox4 := hox.to (B' := w.heap.size) (by have := hFF.size; omega)
  clear HTK hN2 hFF hox x4 hcase hG3 d0 d2 f2
  unfold LV.val
  go_upto_region 6 with fail
  have hX := Blk.new w4 26 [.int .i64 lx.kind, .int .i64 lx.src, .int .i64 lx.dst, .int .i64 lx.term, .int .i64 lx.a, .int .i64 lx.b, .int .i64 lx.c, .int .i64 lx.bin, .bool lx.ok, .slice lx.A lx.n lx.cp]
  have x5 : Ext w4 (w4.alloc (.cells #[.int .i64 lx.kind, .int .i64 lx.src, .int .i64 lx.dst, .int .i64 lx.term, .int .i64 lx.a, .int .i64 lx.b, .int .i64 lx.c, .int .i64 lx.bin, .bool lx.ok, .slice lx.A lx.n lx.cp] 26)) := (Ext.refl w4).alloc _
  generalize hgX : w4.heap.size = gX at hX ⊢
  generalize w4.alloc (.cells #[.int .i64 lx.kind, .int .i64 lx.src, .int .i64 lx.dst, .int .i64 lx.term, .int .i64 lx.a, .int .i64 lx.b, .int .i64 lx.c, .int .i64 lx.bin, .bool lx.ok, .slice lx.A lx.n lx.cp] 26) = W5 at *
  clear hgX
  have HN := Lib.hid (hN4.ext x5)
  have HFF := Lib.hid (hFF4.trans (Fr.of_ext x5 _))
  have HOX := Lib.hid (hox4.ext x5)
  replace hG := hG.ext x5
  clear hN4 hFF4 hox4 x5
  have HXB := Lib.hid hX
  have q0 := hX.cell 0
  have q1 := hX.cell 1
  have q2 := hX.cell 2
  have q3 := hX.cell 3
  have q4 := hX.cell 4
  have q5 := hX.cell 5
  have q6 := hX.cell 6
  have q7 := hX.cell 7
  have q8 := hX.cell 8
  have q9 := hX.cell 9
  simp only [List.getElem?_cons_zero, List.getElem?_cons_succ] at q0 q1 q2 q3 q4 q5 q6 q7 q8 q9
  clear hX
  have g0 := hG.cell 0
  have g1 := hG.cell 1
  have g2 := hG.cell 2
  have g3 := hG.cell 3
  have g4 := hG.cell 4
  have g5 := hG.cell 5
  have g6 := hG.cell 6
  have g7 := hG.cell 7
  have g8 := hG.cell 8
  have g9 := hG.cell 9
  simp only [List.getElem?_cons_zero, List.getElem?_cons_succ] at g0 g1 g2 g3 g4 g5 g6 g7 g8 g9
  have z0 := hG.frozen 0
  have z1 := hG.frozen 1
  have z2 := hG.frozen 2
  have z3 := hG.frozen 3
  have z4 := hG.frozen 4
  have z5 := hG.frozen 5
  have z6 := hG.frozen 6
  have z7 := hG.frozen 7
  have z8 := hG.frozen 8
  have z9 := hG.frozen 9
  have HGG := Lib.hid hG
  clear hG
  go_wp2_with fail
  refine bodyPost_ret (v := .tuple #[lx.val, .int .i64 code]) (by simp [results, Try.results36, go_sem, LV.val, g0, g1, g2, g3, g4, g5, g6, g7, g8, g9]) rfl ?_
  exact (HE.out _ _).2 ⟨lx, code, _, rfl, HOX.out.st10 HGG.out (.int .i64 lx.kind) (.int .i64 lx.src) (.int .i64 lx.dst) (.int .i64 lx.term) (.int .i64 lx.a) (.int .i64 lx.b) (.int .i64 lx.c) (.int .i64 lx.bin) (.bool lx.ok) (.slice lx.A lx.n lx.cp), hxn, HR.out, RNet.st (w := w) HN.out (Fr.st10 (w := W5) (g := w.heap.size) (.int .i64 lx.kind) (.int .i64 lx.src) (.int .i64 lx.dst) (.int .i64 lx.term) (.int .i64 lx.a) (.int .i64 lx.b) (.int .i64 lx.c) (.int .i64 lx.bin) (.bool lx.ok) (.slice lx.A lx.n lx.cp)) HLS.out HgG.out, by rw [HX.out]; show NetP.mk _ _ _ _ = _; rw [map_erase]; rfl, HFF.out.new (Fr.st10 (w := W5) (g := w.heap.size) (.int .i64 lx.kind) (.int .i64 lx.src) (.int .i64 lx.dst) (.int .i64 lx.term) (.int .i64 lx.a) (.int .i64 lx.b) (.int .i64 lx.c) (.int .i64 lx.bin) (.bool lx.ok) (.slice lx.A lx.n lx.cp)) (Nat.le_refl _)⟩
end Go.Proofs.Ytcoaofaofmbfbaa

/- The walk of the document's net's Turn. -/
namespace Go.Proofs.Ytcoaofaofmbfbaa
open Go.RowKit

theorem and255 (x : Int) : bits .and .i64 x 255 = x % 256 := by
  have h : (BitVec.ofInt 64 x &&& BitVec.ofInt 64 255).toNat = (x % 256).toNat := by
    rw [BitVec.toNat_and, BitVec.toNat_ofInt, show (BitVec.ofInt 64 255).toNat = 255 from rfl, nat_mask8]
    omega
  show IntKind.i64.wrap (((BitVec.ofInt 64 x &&& BitVec.ofInt 64 255).toNat : Nat) : Int) = _
  rw [h, IntWalk.i64_in _ ⟨by omega, by omega⟩]
  omega
theorem own_storeR {w : World} {base : Nat} {e : TypeId} {size n c g : Nat} {xs : List Value} (h : w.ownsRow base e size (.slice (some ⟨g, 0, none⟩) n c) n xs) (i : Nat) (u : Value) :
    (w.setCell ⟨g, i, none⟩ u).ownsRow base e size (.slice (some ⟨g, 0, none⟩) n c) n (xs.set i u) := by
  refine ⟨by simpa using h.1, ?_⟩
  rcases h.2 with ⟨hv, h0⟩ | ⟨g', cap, cur, hv, hb, hg, h1, h2, h3, h4⟩
  · cases hv
  · injection hv with hA _ hc
    injection hA with hA
    injection hA with hA
    subst hA hc
    refine .inr ⟨g, c, (cur.toList.set i u).toArray, rfl, hb, Blk.set_ (l := cur.toList) (show Blk w g e cur.toList from hg) i u, h1, h2, by simpa using h3, ?_⟩
    simp only [List.take_set, h4]
/-- a row of the call's own, with its cell -/
theorem own_blkN {w : World} {base : Nat} {e : TypeId} {size n c : Nat} {A : Option Addr} {xs : List Value} (h : w.ownsRow base e size (.slice A n c) n xs) (hn : 0 < n) : ∃ b cur, A = some ⟨b, 0, none⟩ ∧ base ≤ b ∧ Blk w b e cur := by
  rcases h.2 with ⟨hv, h0⟩ | ⟨g', cap, cur, hv, hb, hg, h1, h2, h3, h4⟩
  · omega
  · injection hv with hA _ hc
    exact ⟨g', cur.toList, hA, hb, hg⟩
theorem RNet.put2 {w W : World} {G : Nat → Bool} {g : Nat} {x : NetV} (h : RNet w G g x) (hub : ∀ k, G k = true → k < w.heap.size) {A : Option Addr} {n c : Nat} {l : List BSV} (hb : Blk W g 68 [.slice A n c, .int .i64 x.sent, .int .i64 x.taken, .int .i64 x.lost]) (hown : W.ownsRow w.heap.size 29 1 (.slice A n c) n (l.map BSV.val))
    (hel : ∀ y ∈ l, Bs (mask G W) y.A y.len y.b ∧ y.len ≤ y.cap ∧ y.cap ≤ maxLen ∧ y.len ≤ 16384) (hn : n ≤ 256) : RNet W G g { x with A := A, n := n, c := c, l := l } := by
  have hrd : Rd (mask G W) A n 1 (l.map BSV.val) := Rd.of_own (own_maskG hown hub)
  exact ⟨hb, h.gG, hrd, (own_bounds hown).1, (own_bounds hown).2, hel, hn, h.s0, h.t0, h.l0⟩
def RTurnPost (G : Nat → Bool) (g : Nat) (x : NetV) (i p by_ : Int) (w : World) (e : Ending) (w' : World) : Prop :=
  ∃ x' : NetV, e = .returned (.int .i64 (turnC x i p)) ∧ RNet w' G g x' ∧ x'.p = x.p.turn i p by_ ∧ Fr (fun k => k == g) w w'
set_option maxRecDepth 100000 in
set_option maxHeartbeats 1600000 in
theorem ref21_Turn (G : Nat → Bool) (g : Nat) (x : NetV) (i p by_ : Int) (w : World) (h : RNet w G g x) (hub : ∀ k, G k = true → k < w.heap.size) :
    Calls Try.prog 39 #[.pointer (some ⟨g, 0, none⟩), .int .i64 i, .int .i64 p, .int .i64 by_] w (RTurnPost G g x i p by_ w) := by
  have HE : Hid (∀ (W : World) (e : Ending), RTurnPost G g x i p by_ w e W ↔ ∃ x' : NetV, e = .returned (.int .i64 (turnC x i p)) ∧ RNet W G g x' ∧ x'.p = x.p.turn i p by_ ∧ Fr (fun k => k == g) w W) := Lib.hid fun _ _ => Iff.rfl
  have HT := Lib.hid (turnp_p h.len i p by_)
  obtain ⟨d0, _⟩ := h.cells
  rcases there_cases x.n i with ⟨h1, _, k, rfl, hk⟩ | ⟨h1, _⟩
  case inr =>
    obtain ⟨e1, e2⟩ := turn_no (x := x) (i := i) (p := p) (by unfold turnB; rw [h1]; rfl) by_
    have HC := Lib.hid e1
    have HP := Lib.hid e2
    have HH := Lib.hid h
    by_cases hi0 : i < 0
    · clear h h1 e1 e2
      go_enter Try.func39, Try.ntmps39
      go_wp2_with fail
      go_ret
      exact (HE.out _ _).2 ⟨x, by rw [HC.out]; rfl, HH.out, by rw [← HT.out.1, HP.out], Fr.refl _ _⟩
    · have hi1 := there_no h1 hi0
      clear h h1 e1 e2
      go_enter Try.func39, Try.ntmps39
      go_wp2_with fail
      go_ret
      exact (HE.out _ _).2 ⟨x, by rw [HC.out]; rfl, HH.out, by rw [← HT.out.1, HP.out], Fr.refl _ _⟩
  have hkl : k < x.l.length := by rw [h.len]; exact hk
  have hat := at_there hk hkl
  obtain ⟨b, off, hA, hc⟩ := h.at_ hk
  have hoy := h.el x.l[k] (List.getElem_mem _)
  have hyl : x.l[k].b.length = x.l[k].len := hoy.1.len
  have hi0 : (0 : Int) ≤ k := by omega
  have hi1 : (k : Int) < x.n := by omega
  have hi2 : ¬ ((k : Int) < 0) := by omega
  have hi3 : ¬ ((x.n : Int) ≤ k) := by omega
  have hfew := hoy.2.2.2
  by_cases hp0 : 0 ≤ p
  case neg =>
    obtain ⟨e1, e2⟩ := turn_no (x := x) (i := k) (p := p) (by unfold turnB; rw [h1, dec_f hp0]; rfl) by_
    have HC := Lib.hid e1
    have HP := Lib.hid e2
    have HH := Lib.hid h
    have hpl : p < 0 := by omega
    clear h h1 e1 e2 hp0 hat hoy hyl hc hA
    go_enter Try.func39, Try.ntmps39
    go_wp2_with fail
    go_ret
    exact (HE.out _ _).2 ⟨x, by rw [HC.out]; rfl, HH.out, by rw [← HT.out.1, HP.out], Fr.refl _ _⟩
  obtain ⟨q, rfl⟩ := Int.eq_ofNat_of_zero_le hp0
  have hq0 : ¬ (q : Int) < 0 := by omega
  by_cases hq : q < x.l[k].len
  case neg =>
    obtain ⟨e1, e2⟩ := turn_no (x := x) (i := k) (p := q) (by unfold turnB; rw [h1, hat, dec_f (show ¬ (q : Int) < (x.l[k].b.length : Int) by omega)]; simp) by_
    have HC := Lib.hid e1
    have HP := Lib.hid e2
    have HH := Lib.hid h
    unfold BSV.val at hc
    have hql : (x.l[k].len : Int) ≤ q := by omega
    rw [hA] at d0
    generalize x.l[k] = y at *
    clear h h1 e1 e2 hp0 hat hoy hyl hA hq
    go_enter Try.func39, Try.ntmps39
    go_wp2_with fail
    go_ret
    exact (HE.out _ _).2 ⟨x, by rw [HC.out]; rfl, HH.out, by rw [← HT.out.1, HP.out], Fr.refl _ _⟩
  obtain ⟨e1, e2⟩ := turn_yes (x := x) (i := k) (p := q) (by unfold turnB; rw [h1, hat, dec_t (show (q : Int) < (x.l[k].b.length : Int) by omega), dec_t hp0]; rfl) by_
  have HC := Lib.hid e1
  have HP : Hid (x.p.turn k q by_ = ⟨(x.l.map BSV.b).set k (turnOf x.l[k].b q by_), x.sent, x.taken, x.lost⟩) := Lib.hid (by
    rw [← HT.out.1, e2, hat]
    show NetP.mk _ _ _ _ = _
    congr 1
    show (x.l.set _ _).map BSV.b = _
    rw [List.map_set]; rfl)
  have hgd : x.l[k].b.getD q 0 = x.l[k].b[q]'(by omega) := by rw [List.getD_eq_getElem?_getD, List.getElem?_eq_getElem (by omega)]; rfl
  have HU : Hid (turnOf x.l[k].b q by_ = x.l[k].b.set q (UInt8.ofNat ((x.l[k].b[q]'(by omega)).toNat ^^^ (by_ % 256).toNat))) := Lib.hid (by unfold turnOf; rw [hgd])
  have hqg : x.l[k].b[q]? = some (x.l[k].b[q]'(by omega)) := List.getElem?_eq_getElem (by omega)
  have HQG := Lib.hid hqg
  generalize x.l[k].b[q]'(by omega) = v at *
  have hm0 : (by_ % 256).toNat < 256 := by omega
  have hx1 := u8_xor_nat v.toNat (by_ % 256).toNat v.toNat_lt hm0
  have hlt : v.toNat ^^^ (by_ % 256).toNat < 256 := Nat.xor_lt_two_pow (n := 8) v.toNat_lt hm0
  have hbv : bv (UInt8.ofNat (v.toNat ^^^ (by_ % 256).toNat)) = .int .u8 ((v.toNat ^^^ (by_ % 256).toNat : Nat) : Int) := bv_ofNat hlt
  have HBV := Lib.hid hbv
  have hand := and255 by_
  have hw8 : IntKind.u8.wrap (by_ % 256) = ((by_ % 256).toNat : Int) := by
    unfold IntKind.wrap
    simp [IntKind.bits, IntKind.signed]
    omega
  have HH := Lib.hid h
  have HUB := Lib.hid hub
  have HY := Lib.hid hoy
  have HHA := Lib.hid hA
  have HRW := Lib.hid h.rdw
  have hfew2 := h.few
  have hxc := h.le
  have hxl := h.len
  have HXL := Lib.hid hxl
  have HBS := Lib.hid (h.bs (List.getElem_mem hkl))
  have HK := Lib.hid hkl
  have HYL := Lib.hid hyl
  unfold BSV.val at hc
  rw [hA] at d0
  have hE := own_empty w 5 1
  have hq1 : (q : Int) < x.l[k].len := by omega
  have HXK : Hid (x.l[k]? = some x.l[k]) := Lib.hid (List.getElem?_eq_getElem hkl)
  generalize x.l[k] = y at *
  have hrb : Rd (w.alloc (.cells #[] 5)) y.A y.len 1 (y.b.map bv) := (HBS.out).ext ((Ext.refl w).alloc _)
  have xa : Ext w (w.alloc (.cells #[] 5)) := (Ext.refl w).alloc _
  have d0a := xa.cell d0
  have hca := xa.cell hc
  have HXA := Lib.hid xa


  clear h h1 e1 e2 hat hoy hyl hA hqg hgd hbv hlt hub hxl hkl xa
  go_enter Try.func39, Try.ntmps39
  go_upto_region 4 with (at_builtin; refine wpList_app bytesT (by omega) _ rfl rfl rfl hE rfl hrb (bvs_one _) (by unfold maxLen; omega) (by omega) (by simp) ?_; intro v3 w3 hown3 hg3 hat3)
  have hown3' : w3.ownsRow w.heap.size 5 1 v3 y.len (y.b.map bv) := own_to hown3 (Nat.le_refl _) (by omega) rfl
  obtain ⟨A3, c3, rfl, hc3⟩ := own_form hown3'
  obtain ⟨b3, cur3, rfl, hb3, hB3⟩ := own_blkN hown3' (by omega)
  have hc3m := (own_bounds hown3').2
  have x3 : Ext w w3 := Below.app HXA.out hg3 (by simp) hE (Nat.le_refl _)
  obtain ⟨b3', off3, e3, hcell⟩ := (Bs.of_own hown3').at_ hq
  injection e3 with e3
  injection e3 with e3 eo _
  subst e3 eo
  rw [Nat.zero_add] at hcell
  have hv : y.b[q]'(by rw [HYL.out]; exact hq) = v := by
    have := HQG.out
    rw [List.getElem?_eq_getElem (by rw [HYL.out]; exact hq)] at this
    exact Option.some.inj this
  rw [hv] at hcell
  have hz3 := hB3.frozen q
  have hown4 := own_store hown3' (p := q) (UInt8.ofNat (v.toNat ^^^ (by_ % 256).toNat))
  rw [← HU.out, HBV.out] at hown4
  have x4 : Ext w (w3.setCell ⟨b3, q, none⟩ (.int .u8 ((v.toNat ^^^ (by_ % 256).toNat : Nat) : Int))) := x3.setCell hb3 _
  have hB4 := hB3.set_ q (.int .u8 ((v.toNat ^^^ (by_ % 256).toNat : Nat) : Int))
  have HO4 := Lib.hid hown4
  have HX4 := Lib.hid x4
  have HB4 := Lib.hid hB4
  clear hown3 hown3' hg3 hat3 hE hrb d0a hca hB3 x3 hown4 x4 hB4 hv HBV
  generalize (by_ % 256).toNat = m at *
  generalize v.toNat ^^^ m = r at *
  go_upto_region 5 with fail
  generalize w3.setCell ⟨b3, q, none⟩ (.int .u8 (r : Int)) = W4 at *
  clear hcell hz3
  have x4 := HX4.out
  have xa4 : Ext w (W4.alloc (.cells #[] 29)) := x4.alloc _
  have d4 := xa4.cell d0
  have hE4 := own_empty W4 29 1
  have hr4 : Rd (W4.alloc (.cells #[] 29)) (some ⟨b, off, none⟩) x.n 1 (x.l.map BSV.val) := by rw [← HHA.out]; exact HRW.out.ext xa4
  have HXA4 := Lib.hid xa4
  have hlt4 : b3 < W4.heap.size := HB4.out.lt
  clear xa4 x4
  go_upto_region 6 with (at_builtin; refine wpList_app rowsT (by omega) _ rfl rfl rfl hE4 rfl hr4 (bvs_cells _) (by unfold maxLen; omega) (by omega) (by simp) ?_; intro v5 w5 hown5 hg5 hat5; have x45 : Ext W4 w5 := Below.app ((Ext.refl W4).alloc _) hg5 (by simp) hE4 (Nat.le_refl _); have x5 : Ext w w5 := Below.app HXA4.out hg5 (by have := HXA4.out.size; exact this) hE4 (by have := HX4.out.size; exact this); have hB5 := HH.out.blk.ext x5; have d5 := hB5.cell 0; have z5 := hB5.frozen 0; simp only [List.getElem?_cons_zero] at d5; have hown5' : w5.ownsRow w.heap.size 29 1 v5 x.n (x.l.map BSV.val) := own_to hown5 (by have := HX4.out.size; exact this) (by omega) rfl; obtain ⟨A5, c5, rfl, _⟩ := own_form hown5'; obtain ⟨b5, cur5, rfl, hb5, hB5r⟩ := own_blkN hown5' (by omega))
  have hne5 : b5 ≠ g := Blk.ne_ hB5r hB5 (by decide)
  have hbs5 := HB4.out.ext x45
  have hne3 : b3 ≠ g := Blk.ne_ hbs5 hB5 (by decide)
  have hne35 : b3 ≠ b5 := Blk.ne_ hbs5 hB5r (by decide)
  have hB6 := hB5.set_ 0 (.slice (some ⟨b5, 0, none⟩) x.n c5)
  have hB6r := hB5r.far (p := ⟨g, 0, none⟩) hne5 (.slice (some ⟨b5, 0, none⟩) x.n c5)
  have hown6 := own_far' hown5' (p := ⟨g, 0, none⟩) (by intro e; injection e with e; exact hne5 e) (.slice (some ⟨b5, 0, none⟩) x.n c5)
  have hF6 := (Fr.of_ext x5 (fun k => k == g)).trans (Fr.setCell w5 (p := ⟨g, 0, none⟩) (by simp) (.slice (some ⟨b5, 0, none⟩) x.n c5))
  have hown3 := own_far' (own_ext HO4.out x45) (p := ⟨g, 0, none⟩) (by intro e; injection e with e; exact hne3 e) (.slice (some ⟨b5, 0, none⟩) x.n c5)
  clear hown5 hown5' hg5 hat5 hB5 hB5r d5 z5 x5 x45 hbs5 hE4 hr4 d4
  generalize w5.setCell ⟨g, 0, none⟩ (.slice (some ⟨b5, 0, none⟩) x.n c5) = W6 at *
  have d6 := hB6.cell 0
  have z6 := hB6r.frozen k
  obtain ⟨b5', off5, e5, _, hcl5⟩ := (Rd.of_own hown6).2 (by omega)
  injection e5 with e5
  injection e5 with e5 eo5 _
  subst e5 eo5
  have d6k := hcl5 k y.val (by rw [List.getElem?_map, HXK.out]; rfl)
  simp only [List.set_cons_zero, List.getElem?_cons_zero] at d6
  rw [Nat.zero_add] at d6k
  have hown7 := own_storeR hown6 k (.slice (some ⟨b3, 0, none⟩) y.len c3)
  have hB7 := hB6.far (p := ⟨b5, k, none⟩) hne5.symm (.slice (some ⟨b3, 0, none⟩) y.len c3)
  have hF7 := hF6.new (Fr.setCell (F := fun q => q == b5) W6 (p := ⟨b5, k, none⟩) (by simp) (.slice (some ⟨b3, 0, none⟩) y.len c3)) hb5
  have hown37 := own_far' hown3 (p := ⟨b5, k, none⟩) (by intro e; injection e with e; exact hne35 e) (.slice (some ⟨b3, 0, none⟩) y.len c3)
  have HO7 := Lib.hid hown7
  have HB7 := Lib.hid hB7
  have HF7 := Lib.hid hF7
  have HO37 := Lib.hid hown37
  clear hown6 hown3 hown7 hB6 hB6r hB7 hF6 hF7 hown37 hcl5
  unfold BSV.val at d6k
  go_wp2_with fail
  go_ret
  generalize W6.setCell ⟨b5, k, none⟩ (.slice (some ⟨b3, 0, none⟩) y.len c3) = W7 at *
  have hmk : Ext (mask G w) (mask G W7) := (HF7.out.mono (fun q _ hq => by rw [eq_of_beq hq]; exact HH.out.gG)).masks (fun _ _ => rfl)
  have hset : (x.l.map BSV.val).set k (.slice (some ⟨b3, 0, none⟩) y.len c3) = (x.l.set k (⟨some ⟨b3, 0, none⟩, y.len, c3, turnOf y.b q by_⟩ : BSV)).map BSV.val := by rw [List.map_set]; rfl
  have hown8 := HO7.out
  rw [hset] at hown8
  refine (HE.out _ _).2 ⟨_, by rw [HC.out]; rfl, HH.out.put2 HUB.out HB7.out hown8 (fun z hz => ?_) hfew2, ?_, HF7.out⟩
  · rcases List.mem_or_eq_of_mem_set hz with hz | rfl
    · exact ⟨(HH.out.el z hz).1.ext hmk, (HH.out.el z hz).2⟩
    · exact ⟨Bs.of_own (own_maskG HO37.out HUB.out), hc3, hc3m, hfew⟩
  · rw [HP.out]
    simp only [NetV.p, List.map_set]
end Go.Proofs.Ytcoaofaofmbfbaa

/- The walk of the document's net's Send. (Printed by wip/tools/rnsend.py.) -/
namespace Go.Proofs.Ytcoaofaofmbfbaa
open Go.RowKit

theorem rd_blk1 {w : World} {k : Nat} {t : TypeId} {v : Value} (h : Blk w k t [v]) : Rd w (some ⟨k, 0, none⟩) 1 1 [v] :=
  ⟨rfl, fun _ => ⟨k, 0, rfl, h.lt, fun i u hi => by rw [Nat.zero_add, h.cell i]; exact hi⟩⟩
theorem own_emptyJ (w : World) (e : TypeId) (size k : Nat) (hk : k = w.heap.size) : (w.alloc (.cells #[] e)).ownsRow w.heap.size e size (.slice (some ⟨k, 0, none⟩) 0 0) 0 [] := by subst hk; exact own_empty w e size
theorem room_full {n j : Nat} (h : 256 ≤ n + roomN n j) : roomN n (j + 1) = roomN n j ∧ roomN n (j + 1) < j + 1 := by unfold roomN at *; omega
theorem room_free {n j : Nat} (h : ¬ 256 ≤ n + roomN n j) : roomN n (j + 1) = j + 1 ∧ roomN n j = j := by unfold roomN at *; omega
def RSendPost (G : Nat → Bool) (g : Nat) (x : NetV) (l : List LV) (w : World) (e : Ending) (w' : World) : Prop :=
  ∃ x' : NetV, e = .returned (.int .i64 (sendC x.n l)) ∧ RNet w' G g x' ∧ x'.p = x.p.send l ∧ Fr (fun k => k == g) w w'
set_option maxRecDepth 100000 in
set_option maxHeartbeats 6400000 in
theorem ref21_Send (G : Nat → Bool) (g : Nat) (x : NetV) (A : Option Addr) (n c : Nat) (l : List LV) (w : World) (h : RNet w G g x) (hub : ∀ k, G k = true → k < w.heap.size) (hl : Ts w A n l) (hn : n ≤ 100) (hxn : ∀ y ∈ l, y.n ≤ 20000) (hb1 : x.sent + n ≤ 1000000000) (hb2 : x.lost + n ≤ 1000000000) :
    Calls Try.prog 35 #[.pointer (some ⟨g, 0, none⟩), .slice A n c] w (RSendPost G g x l w) := by
  have hlen := hl.len
  have HE : Hid (∀ (W : World) (e : Ending), RSendPost G g x l w e W ↔ ∃ x' : NetV, e = .returned (.int .i64 (sendC x.n l)) ∧ RNet W G g x' ∧ x'.p = x.p.send l ∧ Fr (fun k => k == g) w W) := Lib.hid fun _ _ => Iff.rfl
  have HN := Lib.hid h
  have HUB := Lib.hid hub
  have H0 := Lib.hid (own_empty w 29 1)
  clear h hub
  go_enter Try.func35, Try.ntmps35
  go_wp2_with fail
  go_loopw [5, 6] (fun v i wr => ∃ j : Nat, i = .int .i64 j ∧ j ≤ n ∧ (∃ d : List BSV, wr.ownsRow w.heap.size 29 1 v j (d.map BSV.val) ∧ OwnD wr w.heap.size d ∧ Hid (d.map BSV.b = (l.take j).map letB)) ∧ Hid (allMay (l.take j) = true) ∧ Ext w wr) (fun _ i _ => n - (intOf i).toNat)
  case atStart => exact ⟨0, rfl, by omega, ⟨[], H0.out, ⟨by simp, by simp, .nil⟩, Lib.hid rfl⟩, Lib.hid rfl, (Ext.refl w).alloc _⟩
  case round =>
    clear H0
    obtain ⟨j, rfl, hj, ⟨d, hown, hD, HDB⟩, HAM, hx⟩ := hrel
    obtain ⟨v5, rfl⟩ : ∃ v5 : Value, v5 = u5 := ⟨_, rfl⟩
    have hdl : d.length = j := by have := congrArg List.length HDB.out; simp at this; omega
    by_cases hjn : j < n
    · have hjl : j < l.length := by omega
      obtain ⟨b, off, rfl, hbw, hcl⟩ := (hl.ext hx).at_ hjn
      have hyok : (l[j]).Ok wr := (hl.ext hx).ok l[j] (List.getElem_mem _)
      have hyn := hxn l[j] (List.getElem_mem _)
      have HTM := Lib.hid (fun hm => allMay_take hjl HAM.out hm)
      have HNO := Lib.hid (fun hm => allMay_no hjl hm)
      have HTB : Hid ((l.take (j + 1)).map letB = (l.take j).map letB ++ [letB l[j]]) := Lib.hid (by rw [List.take_succ_eq_append_getElem hjl, List.map_append]; rfl)
      generalize l[j] = y at *
      have hj0 : (0 : Int) ≤ j := by omega
      have hj1 : (j : Int) < n := by omega
      have e0 := hcl 0 (by omega)
      have e1 := hcl 1 (by omega)
      have e2 := hcl 2 (by omega)
      have e3 := hcl 3 (by omega)
      have e4 := hcl 4 (by omega)
      have e5 := hcl 5 (by omega)
      have e6 := hcl 6 (by omega)
      have e7 := hcl 7 (by omega)
      have e8 := hcl 8 (by omega)
      have e9 := hcl 9 (by omega)
      simp only [show Thing.cells y = LV.cells y from rfl, LV.cells, List.getElem?_cons_zero, List.getElem?_cons_succ, Nat.add_zero] at e0 e1 e2 e3 e4 e5 e6 e7 e8 e9
      clear hcl
      have HP := Lib.hid (ref16_Put y none 0 0 [] wr hyok hyn (Fs.nil_ _ _) (by omega))
      rw [lput_nil hyok] at HP
      have HLB := Lib.hid (fun hm => letB_len hyok hm)
      unfold LV.val at HP
      obtain ⟨m, hm⟩ : ∃ m, mayB y = m := ⟨_, rfl⟩
      rw [hm] at HP HTM HNO HLB
      clear hyok hm
      have HOWN := Lib.hid hown
      rcases m with _ | _
      · rw [if_neg (by simp)] at HP
        have HXE := Lib.hid hx
        have HA := Lib.hid (HNO.out rfl)
        clear hown hD hx hbw
        go_wp2_with fail
        refine HP.out.mono ?_
        rintro e w2 ⟨v2, rfl, _, x2⟩
        go_wp2_with fail
        go_ret
        refine (HE.out _ _).2 ⟨x, by unfold sendC; rw [if_pos HA.out]; rfl, HN.out.ext (HXE.out.trans x2), by unfold NetP.send; rw [if_pos HA.out], Fr.of_ext (HXE.out.trans x2) _⟩
      · rw [if_pos rfl] at HP
        have hbl := HLB.out rfl
        have HTM2 := Lib.hid (HTM.out rfl)
        dsimp only at HP
        generalize letB y = bs at *
        go_wp2_with fail
        refine HP.out.mono ?_
        rintro e w2 ⟨v2, rfl, hown2, x2⟩
        obtain ⟨A3, c3, rfl, _⟩ := own_form hown2
        have hrow3 := own_ext HOWN.out x2
        have hx3 := hx.trans x2
        have hsz := hx3.size
        have hoy : OwnB (w2.alloc (.cells #[.slice A3 bs.length c3] 29)) ⟨A3, bs.length, c3, bs⟩ := ⟨own_ext (own_base hown2 (Nat.zero_le _)) ((Ext.refl w2).alloc _), hbl⟩
        have hoyB : ∀ k, (⟨A3, bs.length, c3, bs⟩ : BSV).blk = some k → wr.heap.size ≤ k := fun k hk => (hown2.lt k hk).1
        have x23 : Ext wr (w2.alloc (.cells #[.slice A3 bs.length c3] 29)) := x2.alloc _
        have hw2 : w.heap.size ≤ wr.heap.size := hx.size
        clear HP hown2 HOWN hown e0 e1 e2 e3 e4 e5 e6 e7 e8 e9
        go_wp2_with (at_builtin; refine wpList_app rowsT (by omega) _ rfl rfl rfl (hrow3.alloc _) rfl (rd_new1 _ (.slice A3 bs.length c3) _) (one1 rfl) (by unfold maxLen; omega) (by omega) (by simp; omega) ?_; intro v4 w4 hown4 hg4 hat4)
        have hD4 := hD.app x23 hoy hoyB hw2 (hrow3.alloc _) hg4
        have x4 := Below.app (hx3.alloc _) hg4 (by simp; omega) (hrow3.alloc _) (Nat.le_refl _)
        have HD4 := Lib.hid hD4
        have HO4 := Lib.hid hown4
        have HX4 := Lib.hid x4
        clear hD4 hown4 x4 hg4 hat4 hrow3 hD
        go_roundw
        case rel => exact ⟨j + 1, val_int (by omega), by omega, ⟨d ++ [⟨A3, bs.length, c3, bs⟩], by rw [List.map_append]; exact HO4.out, HD4.out, Lib.hid (by rw [List.map_append, HDB.out, HTB.out]; rfl)⟩, HTM2, HX4.out⟩
        case measure => simp [intOf]; omega
    · have hall : l.take j = l := List.take_of_length_le (by omega)
      rw [hall] at HDB HAM
      have hjn' : ¬ ((j : Int) < n) := by omega
      have hN := HN.out.ext hx
      obtain rfl : n = j := by omega
      obtain ⟨A5, c5, rfl, hc5⟩ := own_form hown
      have hnl := hN.len_p
      have hfx := hN.few
      have hub : ∀ k, G k = true → k < wr.heap.size := fun k hk => Nat.lt_of_lt_of_le (HUB.out k hk) hx.size
      have hrowM : Rd (mask G wr) A5 n 1 (d.map BSV.val) := Rd.of_own (own_maskG (hown) HUB.out)
      have hdM : ∀ y ∈ d, Bs (mask G wr) y.A y.len y.b ∧ y.len ≤ y.cap ∧ y.cap ≤ maxLen ∧ y.len ≤ 16384 := fun y hy => by
        have ho := hD.el y hy
        refine ⟨Bs.of_own (own_mask ho.own fun k hk => ?_), (own_bounds ho.own).1, (own_bounds ho.own).2, ho.few⟩
        have h1 := hD.lo y hy k hk
        cases e : G k with
        | false => rfl
        | true => have := HUB.out k e; omega
      have HXX := Lib.hid (Fr.of_ext hx (fun k => k == g))
      have hs0 := hN.s0
      have hl0 := hN.l0
      have HROW := Lib.hid hrowM
      have HDM := Lib.hid hdM
      have HBS : Hid (d.map BSV.b = l.map letB) := HDB
      have HUBW := Lib.hid hub
      have HNW := Lib.hid hN
      have hxrow : x.p.row.length = x.n := hnl
      have HXR := Lib.hid hxrow
      clear hown hD hN hub hrowM hdM HDB HN HUB hnl hxrow hx
      obtain ⟨w1, rfl⟩ : ∃ w1, w1 = wr := ⟨_, rfl⟩
      go_wp2_with fail
      go_loopw [9, 10] (fun f i wr => ∃ j : Nat, i = .int .i64 j ∧ f = .bool (decide (roomN x.n j < j)) ∧ j ≤ n ∧ ∃ x' : NetV, RNet wr G g x' ∧ Hid (x'.p = ⟨x.p.row ++ (d.map BSV.b).take (roomN x.n j), x.sent + j, x.taken, x.lost + (j - roomN x.n j : Nat)⟩) ∧ Fr (fun k => k == g) w1 wr) (fun _ i _ => n - (intOf i).toNat)
      case atStart => exact ⟨0, rfl, by simp, by omega, x, HNW.out, Lib.hid (by simp [roomN]; rfl), Fr.refl _ _⟩
      case round =>
        obtain ⟨q, rfl, rfl, hq, x', hN, HP, hF⟩ := hrel
        have hP := HP.out
        have hxn' : x'.n = x.n + roomN x.n q := by
          rw [← hN.len_p, hP]
          simp only [List.length_append, List.length_take, List.length_map, HXR.out, hdl]
          unfold roomN; omega
        have hsq : x'.sent = x.sent + q := congrArg NetP.sent hP
        have htq : x'.taken = x.taken := congrArg NetP.taken hP
        have hlq : x'.lost = x.lost + (q - roomN x.n q : Nat) := congrArg NetP.lost hP
        have hrq : x'.l.map BSV.b = x.p.row ++ (d.map BSV.b).take (roomN x.n q) := congrArg NetP.row hP
        by_cases hqn : q < n
        · have hq0 : (0 : Int) ≤ q := by omega
          have hq1 : (q : Int) < n := by omega
          have hqd : q < d.length := by omega
          obtain ⟨m1, _, _, f1⟩ := hN.setN 1 (x'.sent + 1) (by omega)
          have hw1 : IntKind.i64.wrap (x'.sent + 1) = x'.sent + 1 := IntWalk.i64_in _ ⟨by omega, by omega⟩
          obtain ⟨d0, d1, _, d3⟩ := hN.cells
          have fz1 := hN.blk.frozen 1
          have HF1 := Lib.hid (hF.trans f1)
          have HM1 := Lib.hid m1
          have HUB1 : Hid (∀ k, G k = true → k < (wr.setCell ⟨g, 1, none⟩ (.int .i64 (x'.sent + 1))).heap.size) := Lib.hid (fun k hk => by
            have h1 := HUBW.out k hk
            have h2 := (hF.trans f1).size
            omega)
          have HSQ := Lib.hid hsq
          have HTQ := Lib.hid htq
          have HLQ := Lib.hid hlq
          have HRQ := Lib.hid hrq
          have HXN := Lib.hid hxn'
          clear m1 f1 hN hF hP hsq htq hrq
          go_upto_region 14 with fail
          generalize wr.setCell ⟨g, 1, none⟩ (.int .i64 (x'.sent + 1)) = W1 at *
          clear d0 d1 d3 fz1
          have m1 := HM1.out
          obtain ⟨d0, _, _, d3⟩ := m1.cells
          dsimp only at d0 d3
          have hxf := m1.few
          dsimp only at hxf
          by_cases hfull : 256 ≤ x'.n
          · have hfi : (256 : Int) ≤ x'.n := by omega
            obtain ⟨r1, r2⟩ := room_full (show 256 ≤ x.n + roomN x.n q by omega)
            have fz3 := m1.blk.frozen 3
            obtain ⟨_, _, m3, f3⟩ := m1.setN 3 (x'.lost + 1) (by omega)
            have hw3 : IntKind.i64.wrap (x'.lost + 1) = x'.lost + 1 := IntWalk.i64_in _ ⟨by omega, by omega⟩
            have HM3 := Lib.hid m3
            have HF3 := Lib.hid (HF1.out.trans f3)
            have HR1 := Lib.hid r1
            have HR2 := Lib.hid r2
            have HLQ2 := Lib.hid hlq
            clear m1 m3 f3 r1 r2 hxn' hlq hxf
            go_wp2_with fail
            go_roundw
            case rel => exact ⟨q + 1, val_int (by omega), by rw [decide_eq_true HR2.out], by omega, _, HM3.out, Lib.hid (by
              rw [HR1.out]
              show NetP.mk (x'.l.map BSV.b) (x'.sent + 1) x'.taken (x'.lost + 1) = NetP.mk _ _ _ _
              rw [HRQ.out, HSQ.out, HTQ.out, HLQ2.out]
              have h1 := HR2.out
              have h2 := HR1.out
              congr 1 <;> omega), HF3.out⟩
            case measure => simp [intOf]; omega
          · have hfi : ¬ ((256 : Int) ≤ x'.n) := by omega
            obtain ⟨r1, r2⟩ := room_free (show ¬ 256 ≤ x.n + roomN x.n q by omega)
            have hqd' : (d.map BSV.val)[q]? = some d[q].val := by rw [List.getElem?_map, List.getElem?_eq_getElem hqd]; rfl
            have hzM := HDM.out d[q] (List.getElem_mem hqd)
            have hmk : Ext (mask G w1) (mask G W1) := (HF1.out.mono (fun k _ hk => by rw [eq_of_beq hk]; exact m1.gG)).masks (fun _ _ => rfl)
            obtain ⟨b5, off5, rfl, _, hcl5⟩ := (Rd.unmask (HROW.out.ext hmk)).2 (by omega)
            have hc := hcl5 q _ hqd'
            have HTK : Hid ((d.map BSV.b).take (q + 1) = (d.map BSV.b).take q ++ [d[q].b]) := Lib.hid (by rw [List.take_succ_eq_append_getElem (by simpa using hqd)]; simp)
            generalize d[q] = z at *
            have hzbs := hzM.1.ext hmk
            have HZM := Lib.hid (show ∀ W, Ext W1 W → Bs (mask G W) z.A z.len z.b ∧ z.len ≤ z.cap ∧ z.cap ≤ maxLen ∧ z.len ≤ 16384 from fun W hW => ⟨hzbs.ext hW.masks, hzM.2⟩)
            have HLD := Lib.hid (show ∀ W, Ext W1 W → ∀ y ∈ x'.l, Bs (mask G W) y.A y.len y.b ∧ y.len ≤ y.cap ∧ y.cap ≤ maxLen ∧ y.len ≤ 16384 from fun W hW y hy => ⟨(m1.el y hy).1.ext hW.masks, (m1.el y hy).2⟩)
            obtain ⟨x1, hx1⟩ : ∃ x1 : NetV, x1 = { x' with sent := x'.sent + 1 } := ⟨_, rfl⟩
            have hx1n : x1.n = x'.n := by rw [hx1]
            have hx1l : x1.l = x'.l := by rw [hx1]
            have hx1c : x1.n ≤ x1.c := by rw [hx1]; exact m1.le
            rw [← hx1] at m1
            have hrd := m1.rdw
            have HRD := Lib.hid hrd
            have HBLK := Lib.hid m1.blk
            have HM1N := Lib.hid m1
            have hxa : x1.A = x'.A ∧ x1.c = x'.c := by rw [hx1]; exact ⟨rfl, rfl⟩
            rw [← hxa.1, ← hx1n, ← hxa.2] at d0
            have HX1 := Lib.hid hx1
            have hx1f : x1.n < 256 := by omega
            have HXN1 := Lib.hid hx1n
            have HR1 := Lib.hid r1
            have HR2 := Lib.hid r2
            have HLQ2 := Lib.hid hlq
            have hfi1 : ¬ ((256 : Int) ≤ x1.n) := by omega
            unfold BSV.val at hc
            have aR := (Ext.refl W1).alloc (.cells #[] 29)
            have aU := (Ext.refl W1).alloc (.cells #[.slice z.A z.len z.cap] 29)
            have aRU := aR.alloc (.cells #[.slice z.A z.len z.cap] 29)
            have aUR := aU.alloc (.cells #[] 29)
            have dR := aR.cell d0
            have dU := aU.cell d0
            have dRU := aRU.cell d0
            have dUR := aUR.cell d0
            have cR := aR.cell hc
            have cU := aU.cell hc
            have cRU := aRU.cell hc
            have cUR := aUR.cell hc
            have AR := Lib.hid aR
            have ARU := Lib.hid aRU
            have AUR := Lib.hid aUR
            have E1 := Lib.hid (own_empty W1 29 1)
            have E2 := Lib.hid (own_base (base' := W1.heap.size) (own_emptyJ (W1.alloc (.cells #[.slice z.A z.len z.cap] 29)) 29 1 (W1.heap.size + 1) (by simp)) (by simp))
            have HB2 : Hid (Blk ((W1.alloc (.cells #[.slice z.A z.len z.cap] 29)).alloc (.cells #[] 29)) W1.heap.size 29 [.slice z.A z.len z.cap]) := Lib.hid ((Blk.new W1 29 [.slice z.A z.len z.cap]).alloc _)
            have E5 := Lib.hid (own_ext (own_empty W1 29 1) ((Ext.refl _).alloc (.cells #[.slice z.A z.len z.cap] 29)))
            have HB5 : Hid (Blk ((W1.alloc (.cells #[] 29)).alloc (.cells #[.slice z.A z.len z.cap] 29)) (W1.heap.size + 1) 29 [.slice z.A z.len z.cap]) := Lib.hid (by have h := Blk.new (W1.alloc (.cells #[] 29)) 29 [.slice z.A z.len z.cap]; simpa using h)
            rw [← hx1n] at hfi
            clear m1 hrd aR aU aRU aUR hx1 hxa hx1n hx1l hqd' hzM hmk hcl5 hzbs r1 r2 hlq hxn' d3 hw1 hfull hqd hdl
            go_upto_region 17 with fail
            go_region_law (first
          | (refine step_app rowsT (by omega) _ rfl rfl (by simp [Act.eval]) hr3 (by first | (simp [Act.eval]; rfl) | (simp [Act.eval]; done)) rd13 (one1 rfl) (by unfold maxLen; omega) (by omega) hs13 ?_; intro v5 w14 hown5 hg5 hat5; have x14 : Ext W1 w14 := Below.app x13 hg5 hs13 hr3 (Nat.le_refl _); obtain ⟨A6, c6, rfl, _⟩ := own_form hown5; have hb14 := HBLK.out.ext x14; have d14 := hb14.cell 0; have z14 := hb14.frozen 0; simp only [List.getElem?_cons_zero] at d14)
          | (refine step_app rowsT (by omega) _ rfl rfl (by simp [Act.eval]) (hr3.alloc _) (by first | (simp [Act.eval]; rfl) | (simp [Act.eval]; done)) (rd_new1 _ _ _) (one1 rfl) (by unfold maxLen; omega) (by omega) hs13r ?_; intro v5 w14 hown5 hg5 hat5; have x14 : Ext W1 w14 := Below.app x13r hg5 hs13r (hr3.alloc _) (Nat.le_refl _); obtain ⟨A6, c6, rfl, _⟩ := own_form hown5; have hb14 := HBLK.out.ext x14; have d14 := hb14.cell 0; have z14 := hb14.frozen 0; simp only [List.getElem?_cons_zero] at d14)
          | (refine step_app rowsT (by omega) _ rfl rfl (by simp [Act.eval]) E1.out.drew (by first | (simp [Act.eval]; rfl) | (simp [Act.eval]; done)) (HRD.out.ext AR.out.drew) (bvs_cells _) (by unfold maxLen; omega) (by omega) (by simp <;> omega) ?_; intro v3 w13 hown3 hg3 hat3; have x13 : Ext W1 w13 := Below.app (AR.out.drew) hg3 (by simp <;> omega) E1.out.drew (Nat.le_refl _); have hr3 : w13.ownsRow W1.heap.size 29 1 v3 x1.n (x1.l.map BSV.val) := own_to hown3 (Nat.le_refl _) (by omega) rfl; have hs13 : W1.heap.size ≤ w13.heap.size := x13.size; have c13 := x13.cell hc; have x13r : Ext W1 (w13.alloc (.cells #[.slice z.A z.len z.cap] 29)) := x13.alloc _; have c13r := x13r.cell hc; have hs13r : W1.heap.size ≤ (w13.alloc (.cells #[.slice z.A z.len z.cap] 29)).heap.size := x13r.size)
          | (refine step_app rowsT (by omega) _ rfl rfl (by simp [Act.eval]) E2.out.drew (by first | (simp [Act.eval]; rfl) | (simp [Act.eval]; done)) (HRD.out.ext AUR.out.drew) (bvs_cells _) (by unfold maxLen; omega) (by omega) (by simp <;> omega) ?_; intro v3 w13 hown3 hg3 hat3; have x13 : Ext W1 w13 := Below.app (AUR.out.drew) hg3 (by simp <;> omega) E2.out.drew (Nat.le_refl _); have hr3 : w13.ownsRow W1.heap.size 29 1 v3 x1.n (x1.l.map BSV.val) := own_to hown3 (Nat.le_refl _) (by omega) rfl; have hs13 : W1.heap.size ≤ w13.heap.size := x13.size; have c13 := x13.cell hc; have rd13 := rd_blk1 (HB2.out.drew.grown hg3 (fun e => by change some W1.heap.size = some (W1.heap.size + 1) at e; injection e with e; omega)))
          | (refine step_app rowsT (by omega) _ rfl rfl (by simp [Act.eval]) E5.out.drew (by first | (simp [Act.eval]; rfl) | (simp [Act.eval]; done)) (HRD.out.ext ARU.out.drew) (bvs_cells _) (by unfold maxLen; omega) (by omega) (by simp <;> omega) ?_; intro v3 w13 hown3 hg3 hat3; have x13 : Ext W1 w13 := Below.app (ARU.out.drew) hg3 (by simp <;> omega) E5.out.drew (Nat.le_refl _); have hr3 : w13.ownsRow W1.heap.size 29 1 v3 x1.n (x1.l.map BSV.val) := own_to hown3 (Nat.le_refl _) (by omega) rfl; have hs13 : W1.heap.size ≤ w13.heap.size := x13.size; have c13 := x13.cell hc; have rd13 := rd_blk1 (HB5.out.drew.grown hg3 (fun e => by change some (W1.heap.size + 1) = some W1.heap.size at e; injection e with e; omega))))
            all_goals
              have hown6 : w14.ownsRow W1.heap.size 29 1 (.slice A6 (x1.n + 1) c6) (x1.n + 1) ((x1.l ++ [z]).map BSV.val) := by rw [List.map_append]; exact hown5
              obtain ⟨p1, p2⟩ := HM1N.out.put HUB1.out x14 hown6 (fun y hy => by
                rcases List.mem_append.1 hy with hy | hy
                · exact HLD.out _ x14 y (by rw [HX1.out] at hy; exact hy)
                · simp only [List.mem_singleton] at hy
                  subst hy; exact HZM.out _ x14) (by omega)
              have HP1 := Lib.hid p1
              have HF2 := Lib.hid (HF1.out.trans p2)
              clear hown6 hown5 hg5 hat5 x14 p1 p2 hb14 d14 z14
              go_wp2_with fail
              go_roundw
              case rel => exact ⟨q + 1, val_int (by omega), by rw [HR1.out, HR2.out]; simp, by omega, _, HP1.out, Lib.hid (by
                rw [HR1.out]
                show NetP.mk ((x1.l ++ [z]).map BSV.b) x1.sent x1.taken x1.lost = NetP.mk _ _ _ _
                have h1 := HR1.out
                have h2 := HR2.out
                rw [HX1.out, List.map_append]
                show NetP.mk (x'.l.map BSV.b ++ [z.b]) (x'.sent + 1) x'.taken x'.lost = NetP.mk _ _ _ _
                rw [HRQ.out, HSQ.out, HTQ.out, HLQ2.out, h2, HTK.out, List.append_assoc]
                congr 1 <;> omega), HF2.out⟩
              case measure => simp [intOf]; omega
        · have hq1 : ¬ ((q : Int) < n) := by omega
          obtain rfl : q = n := by omega
          have HNQ := Lib.hid hN
          have HFQ := Lib.hid (HXX.out.trans hF)
          have HPQ : Hid (x'.p = x.p.send l) := Lib.hid (by
            unfold NetP.send
            rw [if_neg (by rw [HAM.out]; simp), hP, HBS.out, HXR.out, hlen]; rfl)
          have hdec : decide (roomN x.n q < q) = decide (sendC x.n l = 20) := by
            unfold sendC
            rw [if_neg (by rw [HAM.out]; simp), hlen]
            by_cases hr : roomN x.n q < q
            · rw [if_pos hr, decide_eq_true hr]; rfl
            · rw [if_neg hr, decide_eq_false hr]; rfl
          have hsc : sendC x.n l = 20 ∨ sendC x.n l = 0 := by
            unfold sendC
            rw [if_neg (by rw [HAM.out]; simp)]
            split
            · exact .inl rfl
            · exact .inr rfl
          rw [hdec]
          rcases hsc with hsc | hsc
          · have HC := Lib.hid hsc
            rw [hsc]
            clear hN hF hP hxn' hsq htq hlq hrq hdec hsc
            go_wp2_with fail
            go_ret
            exact (HE.out _ _).2 ⟨x', by rw [HC.out]; rfl, HNQ.out, HPQ.out, HFQ.out⟩
          · have HC := Lib.hid hsc
            rw [hsc]
            clear hN hF hP hxn' hsq htq hlq hrq hdec hsc
            go_wp2_with fail
            go_ret
            exact (HE.out _ _).2 ⟨x', by rw [HC.out]; rfl, HNQ.out, HPQ.out, HFQ.out⟩
end Go.Proofs.Ytcoaofaofmbfbaa
