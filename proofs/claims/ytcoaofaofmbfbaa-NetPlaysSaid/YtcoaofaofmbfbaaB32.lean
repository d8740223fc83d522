/- Words and walks that the last text of this claim stands on: NtE, NtF, NtG, NtH, NtI, NtJ, OpenN. No condition. -/
import Derived.Test.YtcoaofaofmbfbaaB31
import Derived.Laws.BitsAllLaws
import Derived.Test.YtcoaofaofmbfbaaB01
import Derived.Test.YtcoaofaofmbfbaaB04
/- The walks of net's Turn and Take. -/
namespace Go.Proofs.Ytcoaofaofmbfbaa
open Go.RowKit

theorem apart_at {l : List BSV} (h : l.Pairwise Apart) {i j : Nat} (hi : i < l.length) (hj : j < l.length) (hne : i ≠ j) : Apart l[i] l[j] := by
  rcases Nat.lt_or_gt_of_ne hne with hlt | hgt
  · exact List.pairwise_iff_getElem.1 h i j hi hj hlt
  · have := List.pairwise_iff_getElem.1 h j i hj hi hgt
    exact fun k hk hk2 => this k hk2 hk
theorem own_store {w : World} {b n c p : Nat} {l : List UInt8} {base : Nat} (h : w.ownsRow base 5 1 (.slice (some ⟨b, 0, none⟩) n c) n (l.map bv)) (v : UInt8) : (w.setCell ⟨b, p, none⟩ (bv v)).ownsRow base 5 1 (.slice (some ⟨b, 0, none⟩) n c) n ((l.set p v).map bv) := by
  refine ⟨by simpa using h.1, ?_⟩
  rcases h.2 with ⟨e, _⟩ | ⟨g, cap, cur, e, hb, hg, hn, hc, hs, ht⟩
  · cases e
  · injection e with e1 e2 e3
    injection e1 with e1
    injection e1 with e1
    subst e1 e3
    refine .inr ⟨b, c, (cur.toList.set p (bv v)).toArray, rfl, hb, Blk.set_ (l := cur.toList) (show Blk w b 5 cur.toList from hg) p (bv v), hn, hc, by simpa using hs, ?_⟩
    simp only [List.take_set, ht, List.map_set]
/-- bytes of which one was turned -/
def turnOf (b : List UInt8) (p : Nat) (by_ : Int) : List UInt8 := b.set p (UInt8.ofNat ((b.getD p 0).toNat ^^^ (by_ % 256).toNat))
def NetV.put (x : NetV) (k : Nat) (b : List UInt8) : NetV := { x with l := x.l.set k { (x.l.getD k ⟨none, 0, 0, []⟩) with b := b } }
theorem Net.turned {w : World} {F : Nat → Bool} {g : Nat} {x : NetV} (h : Net w F g x) {k : Nat} (hk : k < x.l.length) {b : Nat} (hA : x.l[k].A = some ⟨b, 0, none⟩) (p : Nat) (v : UInt8) :
    Net (w.setCell ⟨b, p, none⟩ (bv v)) F g (x.put k (x.l[k].b.set p v)) ∧ Fr F w (w.setCell ⟨b, p, none⟩ (bv v)) := by
  have hmem : x.l[k] ∈ x.l := List.getElem_mem hk
  have hgd : x.l.getD k ⟨none, 0, 0, []⟩ = x.l[k] := by rw [List.getD_eq_getElem?_getD, List.getElem?_eq_getElem hk]; rfl
  have hblk : x.l[k].blk = some b := by unfold BSV.blk BSV.val; rw [hA]; rfl
  have hFb : F b = true := h.eF _ hmem b hblk
  have hob := (h.el _ hmem).own
  have hF := Fr.setCell (F := F) w (p := ⟨b, p, none⟩) hFb (bv v)
  have hbg : b ≠ g := by
    rcases hob.2 with ⟨e, _⟩ | ⟨g', cap, cur, e, _, hg', _⟩
    · unfold BSV.val at e; rw [hA] at e; cases e
    · unfold BSV.val at e
      rw [hA] at e
      injection e with e1 _ _
      injection e1 with e1
      injection e1 with e1
      subst e1
      exact Blk.ne_ (show Blk w b 5 cur.toList from hg') h.blk (by decide)
  have hrow : (w.setCell ⟨b, p, none⟩ (bv v)).ownsRow 0 29 1 (.slice x.A x.n x.c) x.n (x.l.map BSV.val) := by
    refine own_far' h.row ?_ _
    intro e
    rcases hob.2 with ⟨e2, _⟩ | ⟨g', cap, cur, e2, _, hg', _⟩
    · unfold BSV.val at e2; rw [hA] at e2; cases e2
    · unfold BSV.val at e2
      rw [hA] at e2
      injection e2 with e1 _ _
      injection e1 with e1
      injection e1 with e1
      subst e1
      exact own_blk_ne h.row (show Blk w b 5 cur.toList from hg') (by decide) e
  have hmap : (x.put k (x.l[k].b.set p v)).l.map BSV.val = x.l.map BSV.val := by
    unfold NetV.put
    rw [hgd, List.map_set]
    apply List.ext_getElem?
    intro i
    rw [List.getElem?_set]
    by_cases hi : k = i
    · subst hi; rw [if_pos rfl, if_pos (by simpa using hk), List.getElem?_map, List.getElem?_eq_getElem hk]; rfl
    · rw [if_neg hi]
  have hmapb : (x.put k (x.l[k].b.set p v)).l.map BSV.blk = x.l.map BSV.blk := by
    have := congrArg (List.map Value.ownBlock) hmap
    rw [List.map_map, List.map_map] at this
    exact this
  have hmemb : ∀ y ∈ (x.put k (x.l[k].b.set p v)).l, ∀ j, y.blk = some j → F j = true := by
    intro y hy j hj
    have h1 : y.blk ∈ (x.put k (x.l[k].b.set p v)).l.map BSV.blk := List.mem_map_of_mem hy
    rw [hmapb] at h1
    obtain ⟨z, hz, hzz⟩ := List.mem_map.1 h1
    exact h.eF z hz j (hzz.trans hj)
  refine ⟨⟨h.blk.far (p := ⟨b, p, none⟩) (fun e => hbg e.symm) _, own_cells hrow hmap.symm, ?_, ?_, h.few, h.gF, h.rF, hmemb, fun j hj => Nat.lt_of_lt_of_le (h.ub j hj) hF.size, h.s0, h.t0, h.l0⟩, hF⟩
  · intro y hy
    obtain ⟨i, hi, rfl⟩ := List.mem_iff_getElem.1 hy
    have hil : i < x.l.length := by simpa [NetV.put] using hi
    by_cases hik : i = k
    · subst hik
      have e : (x.put i (x.l[i].b.set p v)).l[i] = { x.l[i] with b := x.l[i].b.set p v } := by
        simp only [NetV.put, hgd, List.getElem_set_self]
      rw [e]
      refine ⟨?_, (h.el _ hmem).few⟩
      show (w.setCell ⟨b, p, none⟩ (bv v)).ownsRow 0 5 1 (.slice x.l[i].A x.l[i].len x.l[i].cap) x.l[i].len _
      unfold BSV.val at hob
      rw [hA] at hob ⊢
      exact own_store hob v
    · have e : (x.put k (x.l[k].b.set p v)).l[i] = x.l[i] := by
        simp only [NetV.put]
        exact List.getElem_set_ne (fun h => hik h.symm) _
      rw [e]
      have := apart_at h.ap hk hil (fun h => hik h.symm)
      exact (h.el _ (List.getElem_mem hil)).far (this b hblk) _
  · have h1 : (x.l.map BSV.blk).Pairwise (fun a c => ∀ k, a = some k → c ≠ some k) := List.pairwise_map.2 h.ap
    rw [← hmapb, List.pairwise_map] at h1
    exact h1

def turnB (x : NetV) (i p : Int) : Bool := thereB x.n i && (decide (0 ≤ p) && decide (p < (x.at i).length))
def turnC (x : NetV) (i p : Int) : Int := if turnB x i p = true then 0 else 1
/-- a net of which a byte was turned -/
def NetV.turn (x : NetV) (i p by_ : Int) : NetV := if turnB x i p = true then x.put i.toNat (turnOf (x.at i) p.toNat by_) else x
theorem turn_yes {x : NetV} {i p : Int} (h : turnB x i p = true) (by_ : Int) : turnC x i p = 0 ∧ x.turn i p by_ = x.put i.toNat (turnOf (x.at i) p.toNat by_) := by
  unfold turnC NetV.turn; rw [if_pos h, if_pos h]; exact ⟨rfl, rfl⟩
theorem turn_no {x : NetV} {i p : Int} (h : turnB x i p = false) (by_ : Int) : turnC x i p = 1 ∧ x.turn i p by_ = x := by
  unfold turnC NetV.turn; rw [if_neg (by simp [h]), if_neg (by simp [h])]; exact ⟨rfl, rfl⟩
theorem at_there {x : NetV} {k : Nat} (hk : k < x.n) (hl : k < x.l.length) : x.at k = x.l[k].b := by
  unfold NetV.at thereB
  rw [if_pos (by simp; omega), Int.toNat_natCast, List.getElem?_eq_getElem hl]; rfl
set_option maxRecDepth 100000 in
set_option maxHeartbeats 1600000 in
theorem net_Turn (F : Nat → Bool) (g : Nat) (x : NetV) (i p by_ : Int) (w : World) (h : Net w F g x) :
    Calls Try.prog 32 #[.pointer (some ⟨g, 0, none⟩), .int .i64 i, .int .i64 p, .int .i64 by_] w fun e w' => e = .returned (.int .i64 (turnC x i p)) ∧ Net w' F g (x.turn i p by_) ∧ Fr F w w' := by
  have HT := Lib.hid (net_there F g x i w h)
  rcases there_cases x.n i with ⟨h1, _, k, rfl, hk⟩ | ⟨h1, _⟩
  case inr =>
    obtain ⟨e1, e2⟩ := turn_no (x := x) (i := i) (p := p) (by unfold turnB; rw [h1]; rfl) by_
    rw [e1, e2]
    have HH := Lib.hid h
    rw [h1] at HT
    clear h h1 e1 e2
    go_enter Try.func32, Try.ntmps32
    go_wp2_with fail
    refine HT.out.mono ?_
    rintro e w1 ⟨rfl, rfl⟩
    go_wp2_with fail
    go_ret
    exact ⟨rfl, HH.out, Fr.refl _ _⟩
  have hkl : k < x.l.length := by rw [h.len]; exact hk
  have hat := at_there hk hkl
  obtain ⟨d0, _⟩ := h.cells
  obtain ⟨b, hA, hc⟩ := h.row_cell hk
  have hoy := h.el x.l[k] (List.getElem_mem _)
  have hyl : x.l[k].b.length = x.l[k].len := hoy.bs.len
  have hi0 : (0 : Int) ≤ k := by omega
  have hi1 : (k : Int) < x.n := by omega
  have hfew := hoy.few
  rw [h1] at HT
  rw [hA] at d0
  by_cases hp0 : 0 ≤ p
  case neg =>
    obtain ⟨e1, e2⟩ := turn_no (x := x) (i := k) (p := p) (by unfold turnB; rw [h1, dec_f hp0]; rfl) by_
    rw [e1, e2]
    have HH := Lib.hid h
    have hpl : p < 0 := by omega
    clear h h1 e1 e2 hp0 hat hoy hyl hc hA
    go_enter Try.func32, Try.ntmps32
    go_wp2_with fail
    refine HT.out.mono ?_
    rintro e w1 ⟨rfl, rfl⟩
    go_wp2_with fail
    go_ret
    exact ⟨rfl, HH.out, Fr.refl _ _⟩
  obtain ⟨q, rfl⟩ := Int.eq_ofNat_of_zero_le hp0
  by_cases hq : q < x.l[k].len
  case neg =>
    obtain ⟨e1, e2⟩ := turn_no (x := x) (i := k) (p := q) (by unfold turnB; rw [h1, hat, dec_f (show ¬ (q : Int) < (x.l[k].b.length : Int) by omega)]; simp) by_
    rw [e1, e2]
    have HH := Lib.hid h
    unfold BSV.val at hc
    have hql : (x.l[k].len : Int) ≤ q := by omega
    have hq0 : ¬ (q : Int) < 0 := by omega
    generalize x.l[k] = y at *
    clear h h1 e1 e2 hp0 hat hoy hyl hA hq
    go_enter Try.func32, Try.ntmps32
    go_wp2_with fail
    refine HT.out.mono ?_
    rintro e w1 ⟨rfl, rfl⟩
    go_wp2_with fail
    go_ret
    exact ⟨rfl, HH.out, Fr.refl _ _⟩
  obtain ⟨e1, e2⟩ := turn_yes (x := x) (i := k) (p := q) (by unfold turnB; rw [h1, hat, dec_t (show (q : Int) < (x.l[k].b.length : Int) by omega), dec_t hp0]; rfl) by_
  rw [e1, e2, hat]
  obtain ⟨b2, off, hyA, hcell⟩ := hoy.bs.at_ hq
  have hoff : off = 0 := by
    rcases hoy.own.2 with ⟨e, _⟩ | ⟨g', cap, cur, e, _⟩
    · unfold BSV.val at e; rw [hyA] at e; cases e
    · unfold BSV.val at e; rw [hyA] at e; injection e with e _ _; injection e with e; injection e with _ e
  subst hoff
  have HTU := Lib.hid (Net.turned h hkl hyA q (UInt8.ofNat ((x.l[k].b.getD q 0).toNat ^^^ (by_ % 256).toNat)))
  have hfz : w.frozen? ⟨b2, q, none⟩ = false := by
    rcases hoy.own.2 with ⟨e, _⟩ | ⟨g', cap, cur, e, _, hg', _⟩
    · unfold BSV.val at e; rw [hyA] at e; cases e
    · unfold BSV.val at e; rw [hyA] at e; injection e with e _ _; injection e with e; injection e with e _
      subst e
      exact (show Blk w b2 5 cur.toList from hg').frozen q
  have hgd : x.l[k].b.getD q 0 = x.l[k].b[q]'(by omega) := by rw [List.getD_eq_getElem?_getD, List.getElem?_eq_getElem (by omega)]; rfl
  rw [hgd] at HTU
  have HU : Hid (turnOf x.l[k].b q by_ = x.l[k].b.set q (UInt8.ofNat ((x.l[k].b[q]'(by omega)).toNat ^^^ (by_ % 256).toNat))) := Lib.hid (by unfold turnOf; rw [hgd])
  generalize x.l[k].b[q]'(by omega) = v at *
  have hm0 : (by_ % 256).toNat < 256 := by omega
  have hx1 := u8_xor_nat v.toNat (by_ % 256).toNat v.toNat_lt hm0
  have hlt : v.toNat ^^^ (by_ % 256).toNat < 256 := Nat.xor_lt_two_pow (n := 8) v.toNat_lt hm0
  have hbv : bv (UInt8.ofNat (v.toNat ^^^ (by_ % 256).toNat)) = .int .u8 ((v.toNat ^^^ (by_ % 256).toNat : Nat) : Int) := bv_ofNat hlt
  rw [hbv] at HTU
  have hw8 : IntKind.u8.wrap by_ = ((by_ % 256).toNat : Int) := by
    unfold IntKind.wrap
    simp [IntKind.bits, IntKind.signed]
    omega
  unfold BSV.val at hc
  rw [show (0 : Nat) + q = q from Nat.zero_add q] at hcell
  have hq1 : (q : Int) < x.l[k].len := by omega
  have hq0 : ¬ (q : Int) < 0 := by omega
  rw [show (q : Int).toNat = q from rfl, show (k : Int).toNat = k from rfl]
  generalize x.l[k] = y at *
  rw [hyA] at hc
  generalize (by_ % 256).toNat = m at *
  generalize v.toNat ^^^ m = r at *
  clear h h1 e1 e2 hat hoy hyl hA hq hgd hbv hlt hm0
  go_enter Try.func32, Try.ntmps32
  go_wp2_with fail
  refine HT.out.mono ?_
  rintro e w1 ⟨rfl, rfl⟩
  go_wp2_with fail
  go_ret
  exact ⟨rfl, by rw [HU.out]; exact HTU.out.1, HTU.out.2⟩
end Go.Proofs.Ytcoaofaofmbfbaa

/- The walk of net's Take. (Printed by wip/tools/nttake.py.) -/
namespace Go.Proofs.Ytcoaofaofmbfbaa
open Go.RowKit

theorem Fr.st10 {w : World} {g : Nat} (a b c d e f i j k v : Value) : Fr (fun q => q == g) w (put10 w g a b c d e f i j k v) := by
  unfold put10
  have h : ∀ (W : World) (o : Nat) (u : Value), Fr (fun q => q == g) W (W.setCell ⟨g, o, none⟩ u) := fun W o u => Fr.setCell W (p := ⟨g, o, none⟩) (by simp) u
  exact (((((((((h _ _ _).trans (h _ _ _)).trans (h _ _ _)).trans (h _ _ _)).trans (h _ _ _)).trans (h _ _ _)).trans (h _ _ _)).trans (h _ _ _)).trans (h _ _ _)).trans (h _ _ _)
/-- a new block is written -/
theorem Fr.new {F : Nat → Bool} {w w1 w2 : World} {g : Nat} (h : Fr F w w1) (k : Fr (fun q => q == g) w1 w2) (hg : w.heap.size ≤ g) : Fr F w w2 :=
  ⟨k.os.trans h.os, k.tape.trans h.tape, k.output.trans h.output, Nat.le_trans h.size k.size, fun i hi hf => (k.block i (Nat.lt_of_lt_of_le hi h.size) (by cases e : (i == g) with | false => rfl | true => have := eq_of_beq e; omega)).trans (h.block i hi hf)⟩
theorem Net.away {w w' : World} {F : Nat → Bool} {g g0 : Nat} {x : NetV} (h : Net w F g x) (k : Fr (fun q => q == g0) w w') (hg : F g0 = false) : Net w' F g x :=
  h.fr k fun q hq => by cases e : (q == g0) with | false => rfl | true => rw [eq_of_beq e, hg] at hq; cases hq
def NetV.take (x : NetV) (i : Int) : NetV := if thereB x.n i = true then { x.erase i.toNat with taken := x.taken + 1 } else x
/-- what Take says -/
def TakeRes (x : NetV) (i : Int) (lx : LV) (code : Nat) : Prop := (thereB x.n i = false ∧ lx = zeroX ∧ code = 1) ∨ (thereB x.n i = true ∧ ∃ ms, IsTaken (x.at i) lx ms code)
def NetTakePost (F : Nat → Bool) (g : Nat) (x : NetV) (i : Int) (w : World) (e : Ending) (w' : World) : Prop :=
  ∃ (lx : LV) (code : Nat), e = .returned (.tuple #[lx.val, .int .i64 code]) ∧ OwnX w' w.heap.size lx ∧ lx.n ≤ 20000 ∧ TakeRes x i lx code ∧ Net w' F g (x.take i) ∧ Fr F w w'
set_option maxRecDepth 100000 in
set_option maxHeartbeats 3200000 in
theorem net_Take (F : Nat → Bool) (g : Nat) (x : NetV) (i : Int) (w : World) (h : Net w F g x) (hb : x.taken + 1 ≤ 1000000000) :
    Calls Try.prog 30 #[.pointer (some ⟨g, 0, none⟩), .int .i64 i] w (NetTakePost F g x i w) := by
  have HE : Hid (∀ (W : World) (e : Ending), NetTakePost F g x i w e W ↔ ∃ (lx : LV) (code : Nat), e = .returned (.tuple #[lx.val, .int .i64 code]) ∧ OwnX W w.heap.size lx ∧ lx.n ≤ 20000 ∧ TakeRes x i lx code ∧ Net W F g (x.take i) ∧ Fr F w W) := Lib.hid fun _ _ => Iff.rfl
  have hG := Blk.new w 26 [.int .i64 0, .int .i64 0, .int .i64 0, .int .i64 0, .int .i64 0, .int .i64 0, .int .i64 0, .int .i64 0, .bool false, .slice none 0 0]
  have xw : Ext w (w.alloc (.cells #[.int .i64 0, .int .i64 0, .int .i64 0, .int .i64 0, .int .i64 0, .int .i64 0, .int .i64 0, .int .i64 0, .bool false, .slice none 0 0] 26)) := (Ext.refl w).alloc _
  have hFg : F w.heap.size = false := by
    cases e : F w.heap.size with
    | false => rfl
    | true => have := h.ub _ e; omega
  have h0 := h.ext xw
  have HT := Lib.hid (net_there F g x i _ h0)
  rcases there_cases x.n i with ⟨h1, _, k, rfl, hk⟩ | ⟨h1, _⟩
  case inr =>
    have HX : Hid (x.take i = x) := Lib.hid (by unfold NetV.take; rw [if_neg (by rw [h1]; simp)])
    have HR : Hid (TakeRes x i zeroX 1) := Lib.hid (.inl ⟨h1, rfl, rfl⟩)
    have HH := Lib.hid h0
    have HF := Lib.hid (Fr.of_ext xw F)
    rw [h1] at HT
    clear h h0 h1 xw
    go_enter Try.func30, Try.ntmps30
    go_wp2_with fail
    generalize hW0 : w.alloc (.cells #[.int .i64 0, .int .i64 0, .int .i64 0, .int .i64 0, .int .i64 0, .int .i64 0, .int .i64 0, .int .i64 0, .bool false, .slice none 0 0] 26) = W0 at *
    clear hW0
    refine HT.out.mono ?_
    rintro e w1 ⟨rfl, hw1⟩
    subst w1
    have g0 := hG.cell 0
    have g1 := hG.cell 1
    have g2 := hG.cell 2
    have g3 := hG.cell 3
    have g4 := hG.cell 4
    have g5 := hG.cell 5
    have g6 := hG.cell 6
    have g7 := hG.cell 7
    have g8 := hG.cell 8
    have g9 := hG.cell 9
    simp only [List.getElem?_cons_zero, List.getElem?_cons_succ] at g0 g1 g2 g3 g4 g5 g6 g7 g8 g9
    have z0 := hG.frozen 0
    have z1 := hG.frozen 1
    have z2 := hG.frozen 2
    have z3 := hG.frozen 3
    have z4 := hG.frozen 4
    have z5 := hG.frozen 5
    have z6 := hG.frozen 6
    have z7 := hG.frozen 7
    have z8 := hG.frozen 8
    have z9 := hG.frozen 9
    have HGG := Lib.hid hG
    clear hG
    go_wp2_with fail
    refine bodyPost_ret (v := .tuple #[.agg #[.int .i64 0, .int .i64 0, .int .i64 0, .int .i64 0, .int .i64 0, .int .i64 0, .int .i64 0, .int .i64 0, .bool false, .slice none 0 0], .int .i64 1]) (by simp [results, Try.results30, go_sem, g0, g1, g2, g3, g4, g5, g6, g7, g8, g9]) rfl ?_
    exact (HE.out _ _).2 ⟨zeroX, 1, rfl, OwnX.zero _ _, Nat.zero_le _, HR.out, by rw [HX.out]; exact Net.away HH.out (Fr.st10 (w := W0) (g := w.heap.size) (.int .i64 0) (.int .i64 0) (.int .i64 0) (.int .i64 0) (.int .i64 0) (.int .i64 0) (.int .i64 0) (.int .i64 0) (.bool false) (.slice none 0 0)) hFg, HF.out.new (Fr.st10 (w := W0) (g := w.heap.size) (.int .i64 0) (.int .i64 0) (.int .i64 0) (.int .i64 0) (.int .i64 0) (.int .i64 0) (.int .i64 0) (.int .i64 0) (.bool false) (.slice none 0 0)) (Nat.le_refl _)⟩

  have hkl : k < x.l.length := by rw [h.len]; exact hk
  have hat := at_there hk hkl
  have HX : Hid (x.take k = { x.erase k with taken := x.taken + 1 }) := Lib.hid (by unfold NetV.take; rw [if_pos h1]; simp)
  have HRS : Hid (∀ lx code, (∃ ms, IsTaken x.l[k].b lx ms code) → TakeRes x k lx code) := Lib.hid (fun lx code hh => .inr ⟨h1, by rw [hat]; exact hh⟩)
  have HRM := Lib.hid (net_remove F g x k _ h0 hk hkl)
  have ht0 := h.t0
  have HF := Lib.hid (Fr.of_ext xw F)
  have hsz0 : w.heap.size < (w.alloc (.cells #[.int .i64 0, .int .i64 0, .int .i64 0, .int .i64 0, .int .i64 0, .int .i64 0, .int .i64 0, .int .i64 0, .bool false, .slice none 0 0] 26)).heap.size := by simp
  rw [h1] at HT
  generalize x.l[k] = y at *
  clear h h0 h1 xw hat
  go_enter Try.func30, Try.ntmps30
  go_wp2_with fail
  generalize w.alloc (.cells #[.int .i64 0, .int .i64 0, .int .i64 0, .int .i64 0, .int .i64 0, .int .i64 0, .int .i64 0, .int .i64 0, .bool false, .slice none 0 0] 26) = W0 at *
  refine HT.out.mono ?_
  rintro e w1 ⟨rfl, hw1⟩
  subst w1
  go_wp2_with fail
  refine HRM.out.mono ?_
  rintro e w2 ⟨rfl, hN, hFr, hoy⟩
  replace hG := hG.fr hFr hFg
  have HA := Lib.hid (atom_Add g 2 x.taken 1 w2 hN.cells.2.2.1 (hN.blk.frozen 2) (by omega) (by omega))
  have hN2 := hN.setTaken (x.taken + 1) (by omega)
  have hF2 := (hN.far_row 2 (.int .i64 (x.taken + 1))).2.2
  have hoy2 := hoy.far (own_blk_ne hoy.own hN.blk (by decide)) (p := ⟨g, 2, none⟩) (.int .i64 (x.taken + 1))
  replace hG := hG.fr hF2 hFg
  have hFF := (HF.out.trans hFr).trans hF2
  clear HT HRM hN hFr hF2 hoy HF
  go_wp2_with fail
  refine HA.out.mono ?_
  rintro e w3 ⟨rfl, rfl⟩
  clear HA
  generalize w2.setCell ⟨g, 2, none⟩ (.int .i64 (x.taken + 1)) = W3 at *
  have HTK := Lib.hid (letter_Take y.A y.len y.cap y.b W3 hoy2.bs (by have := hoy2.few; omega) hoy2.cap.1)
  unfold BSV.val
  clear hoy2
  go_wp2_with fail
  refine HTK.out.mono ?_
  rintro e w4 ⟨lx, AQ, nQ, cQ, Q, code, rfl, hox, _, _, _, hxn, hcase, x4⟩
  have HR := Lib.hid (HRS.out lx code ⟨Q, hcase⟩)
  have HCD : Hid (code ≠ 0 → lx = zeroX) := Lib.hid (fun hh => by
    rcases hcase with ⟨e, _⟩ | ⟨_, e, _⟩
    · exact absurd e hh
    · exact e)
  have hN4 := hN2.ext x4
  have hFF4 := hFF.trans (Fr.of_ext x4 F)
  replace hG := hG.ext x4
  have hox4 := hox.to (B' := w.heap.size) (by have := hFF.size; omega)
  clear HTK hN2 hFF hox x4 hcase
  unfold LV.val
  go_upto_region 6 with fail
  have hX := Blk.new w4 26 [.int .i64 lx.kind, .int .i64 lx.src, .int .i64 lx.dst, .int .i64 lx.term, .int .i64 lx.a, .int .i64 lx.b, .int .i64 lx.c, .int .i64 lx.bin, .bool lx.ok, .slice lx.A lx.n lx.cp]
  have x5 : Ext w4 (w4.alloc (.cells #[.int .i64 lx.kind, .int .i64 lx.src, .int .i64 lx.dst, .int .i64 lx.term, .int .i64 lx.a, .int .i64 lx.b, .int .i64 lx.c, .int .i64 lx.bin, .bool lx.ok, .slice lx.A lx.n lx.cp] 26)) := (Ext.refl w4).alloc _
  generalize hgX : w4.heap.size = gX at hX ⊢
  generalize w4.alloc (.cells #[.int .i64 lx.kind, .int .i64 lx.src, .int .i64 lx.dst, .int .i64 lx.term, .int .i64 lx.a, .int .i64 lx.b, .int .i64 lx.c, .int .i64 lx.bin, .bool lx.ok, .slice lx.A lx.n lx.cp] 26) = W5 at *
  clear hgX
  have HN := Lib.hid (hN4.ext x5)
  have HFF := Lib.hid (hFF4.trans (Fr.of_ext x5 F))
  have HOX := Lib.hid (hox4.ext x5)
  replace hG := hG.ext x5
  clear hN4 hFF4 hox4 x5
  by_cases hcd : code = 0
  · subst hcd
    have HXB := Lib.hid hX
    have q0 := hX.cell 0
    have q1 := hX.cell 1
    have q2 := hX.cell 2
    have q3 := hX.cell 3
    have q4 := hX.cell 4
    have q5 := hX.cell 5
    have q6 := hX.cell 6
    have q7 := hX.cell 7
    have q8 := hX.cell 8
    have q9 := hX.cell 9
    simp only [List.getElem?_cons_zero, List.getElem?_cons_succ] at q0 q1 q2 q3 q4 q5 q6 q7 q8 q9
    clear hX HCD
    have g0 := hG.cell 0
    have g1 := hG.cell 1
    have g2 := hG.cell 2
    have g3 := hG.cell 3
    have g4 := hG.cell 4
    have g5 := hG.cell 5
    have g6 := hG.cell 6
    have g7 := hG.cell 7
    have g8 := hG.cell 8
    have g9 := hG.cell 9
    simp only [List.getElem?_cons_zero, List.getElem?_cons_succ] at g0 g1 g2 g3 g4 g5 g6 g7 g8 g9
    have z0 := hG.frozen 0
    have z1 := hG.frozen 1
    have z2 := hG.frozen 2
    have z3 := hG.frozen 3
    have z4 := hG.frozen 4
    have z5 := hG.frozen 5
    have z6 := hG.frozen 6
    have z7 := hG.frozen 7
    have z8 := hG.frozen 8
    have z9 := hG.frozen 9
    have HGG := Lib.hid hG
    clear hG
    go_wp2_with fail
    refine bodyPost_ret (v := .tuple #[lx.val, .int .i64 0]) (by simp [results, Try.results30, go_sem, LV.val, g0, g1, g2, g3, g4, g5, g6, g7, g8, g9]) rfl ?_
    exact (HE.out _ _).2 ⟨lx, 0, rfl, HOX.out.st10 HGG.out (.int .i64 lx.kind) (.int .i64 lx.src) (.int .i64 lx.dst) (.int .i64 lx.term) (.int .i64 lx.a) (.int .i64 lx.b) (.int .i64 lx.c) (.int .i64 lx.bin) (.bool lx.ok) (.slice lx.A lx.n lx.cp), hxn, HR.out, by rw [HX.out]; exact Net.away HN.out (Fr.st10 (w := W5) (g := w.heap.size) (.int .i64 lx.kind) (.int .i64 lx.src) (.int .i64 lx.dst) (.int .i64 lx.term) (.int .i64 lx.a) (.int .i64 lx.b) (.int .i64 lx.c) (.int .i64 lx.bin) (.bool lx.ok) (.slice lx.A lx.n lx.cp)) hFg, HFF.out.new (Fr.st10 (w := W5) (g := w.heap.size) (.int .i64 lx.kind) (.int .i64 lx.src) (.int .i64 lx.dst) (.int .i64 lx.term) (.int .i64 lx.a) (.int .i64 lx.b) (.int .i64 lx.c) (.int .i64 lx.bin) (.bool lx.ok) (.slice lx.A lx.n lx.cp)) (Nat.le_refl _)⟩

  · have hcd' := bne_t (show ((code : Nat) : Int) ≠ 0 by omega)
    have hz := HCD.out hcd
    subst hz
    have HC := Lib.hid hcd
    clear hX hcd HCD
    have g0 := hG.cell 0
    have g1 := hG.cell 1
    have g2 := hG.cell 2
    have g3 := hG.cell 3
    have g4 := hG.cell 4
    have g5 := hG.cell 5
    have g6 := hG.cell 6
    have g7 := hG.cell 7
    have g8 := hG.cell 8
    have g9 := hG.cell 9
    simp only [List.getElem?_cons_zero, List.getElem?_cons_succ] at g0 g1 g2 g3 g4 g5 g6 g7 g8 g9
    have z0 := hG.frozen 0
    have z1 := hG.frozen 1
    have z2 := hG.frozen 2
    have z3 := hG.frozen 3
    have z4 := hG.frozen 4
    have z5 := hG.frozen 5
    have z6 := hG.frozen 6
    have z7 := hG.frozen 7
    have z8 := hG.frozen 8
    have z9 := hG.frozen 9
    have HGG := Lib.hid hG
    clear hG
    go_wp2_with fail
    refine bodyPost_ret (v := .tuple #[.agg #[.int .i64 0, .int .i64 0, .int .i64 0, .int .i64 0, .int .i64 0, .int .i64 0, .int .i64 0, .int .i64 0, .bool false, .slice none 0 0], .int .i64 code]) (by simp [results, Try.results30, go_sem, g0, g1, g2, g3, g4, g5, g6, g7, g8, g9]) rfl ?_
    exact (HE.out _ _).2 ⟨zeroX, code, rfl, OwnX.zero _ _, Nat.zero_le _, HR.out, by rw [HX.out]; exact Net.away HN.out (Fr.st10 (w := W5) (g := w.heap.size) (.int .i64 0) (.int .i64 0) (.int .i64 0) (.int .i64 0) (.int .i64 0) (.int .i64 0) (.int .i64 0) (.int .i64 0) (.bool false) (.slice none 0 0)) hFg, HFF.out.new (Fr.st10 (w := W5) (g := w.heap.size) (.int .i64 0) (.int .i64 0) (.int .i64 0) (.int .i64 0) (.int .i64 0) (.int .i64 0) (.int .i64 0) (.int .i64 0) (.bool false) (.slice none 0 0)) (Nat.le_refl _)⟩
end Go.Proofs.Ytcoaofaofmbfbaa

/- The walk of net's Send. -/
namespace Go.Proofs.Ytcoaofaofmbfbaa
open Go.RowKit

def LV.cells (x : LV) : List Value := [.int .i64 x.kind, .int .i64 x.src, .int .i64 x.dst, .int .i64 x.term, .int .i64 x.a, .int .i64 x.b, .int .i64 x.c, .int .i64 x.bin, .bool x.ok, .slice x.A x.n x.cp]
instance : Thing LV 10 where
  cells := LV.cells
  ok := LV.Ok
  len := fun _ => rfl
  one := fun f u hu => by
    simp only [LV.cells, List.mem_cons, List.not_mem_nil, or_false] at hu
    rcases hu with rfl | rfl | rfl | rfl | rfl | rfl | rfl | rfl | rfl | rfl <;> rfl
  ext := fun h he => h.ext he
/-- what a net holds, without where -/
structure NetP where
  row : List (List UInt8)
  sent : Int
  taken : Int
  lost : Int
def NetV.p (x : NetV) : NetP := ⟨x.l.map BSV.b, x.sent, x.taken, x.lost⟩
/-- a letter's bytes -/
def letB (x : LV) : List UInt8 := rput (letF x)
def allMay (l : List LV) : Bool := l.all mayB
theorem allMay_no {l : List LV} {j : Nat} (h : j < l.length) (hm : mayB l[j] = false) : allMay l = false := by
  unfold allMay
  rw [List.all_eq_false]
  exact ⟨l[j], List.getElem_mem h, by simp [hm]⟩
theorem lput_nil {x : LV} {w : World} (hx : x.Ok w) : lput x [] = if mayB x = true then (letB x, 0) else ([], 1) := by
  unfold lput letB
  by_cases h : mayB x = true
  · have hf := let_may h (fun y hy => (hx.es.ok y hy).bs.len) hx.es.len
    rw [if_neg (by simp [h]), if_neg (by simp [lowB]), List.append_nil, if_pos hf, if_pos h]
  · rw [if_pos (by simpa using h), if_neg h]
theorem letB_len {x : LV} {w : World} (hx : x.Ok w) (h : mayB x = true) : (letB x).length ≤ 16384 := by
  have hf := let_may h (fun y hy => (hx.es.ok y hy).bs.len) hx.es.len
  unfold letB
  rw [rput_len]
  exact (fmay_ok hf).2
/-- how many find room -/
def roomN (n m : Nat) : Nat := min m (256 - n)
/-- what Send answers -/
def sendC (n : Nat) (l : List LV) : Int := if allMay l = false then 1 else if roomN n l.length < l.length then 20 else 0
def NetP.send (p : NetP) (l : List LV) : NetP := if allMay l = false then p else ⟨p.row ++ (l.map letB).take (roomN p.row.length l.length), p.sent + l.length, p.taken, p.lost + (l.length - roomN p.row.length l.length : Nat)⟩
/-- rows that were cloned -/
structure OwnD (w : World) (B : Nat) (d : List BSV) : Prop where
  el : ∀ y ∈ d, OwnB w y
  lo : ∀ y ∈ d, ∀ k, y.blk = some k → B ≤ k
  ap : d.Pairwise Apart
theorem OwnD.ext {w w' : World} {B : Nat} {d : List BSV} (h : OwnD w B d) (he : Ext w w') : OwnD w' B d := ⟨fun y hy => (h.el y hy).ext he, h.lo, h.ap⟩
theorem OwnD.take {w : World} {B : Nat} {d : List BSV} (h : OwnD w B d) (k : Nat) : OwnD w B (d.take k) :=
  ⟨fun y hy => h.el y (List.mem_of_mem_take hy), fun y hy => h.lo y (List.mem_of_mem_take hy), h.ap.sublist (List.take_sublist _ _)⟩
theorem OwnB.grown {w w' : World} {y : BSV} {B : Nat} {v : Value} {n : Nat} {xs : List Value} (h : OwnB w y) (hv : w.ownsRow B 29 1 v n xs) (hg : w.grownBy w' v.ownBlock) : OwnB w' y :=
  ⟨own_grown h.own hg (own_apart h.own hv (by decide)), h.few⟩
/-- one more that is newer than all -/
theorem OwnD.app {w w0 w' : World} {B : Nat} {d : List BSV} {y : BSV} {v : Value} {n : Nat} {xs : List Value} (h : OwnD w0 B d) (x0 : Ext w0 w) (hy : OwnB w y) (hyB : ∀ k, y.blk = some k → w0.heap.size ≤ k) (hB : B ≤ w0.heap.size) (hv : w.ownsRow B 29 1 v n xs) (hg : w.grownBy w' v.ownBlock) : OwnD w' B (d ++ [y]) := by
  refine ⟨fun z hz => ?_, fun z hz k hk => ?_, ?_⟩
  · rcases List.mem_append.1 hz with hz | hz
    · exact ((h.el z hz).ext x0).grown hv hg
    · simp only [List.mem_singleton] at hz
      subst hz; exact hy.grown hv hg
  · rcases List.mem_append.1 hz with hz | hz
    · exact h.lo z hz k hk
    · simp only [List.mem_singleton] at hz
      subst hz; have := hyB k hk; omega
  · refine List.pairwise_append.2 ⟨h.ap, List.pairwise_singleton _ _, fun a ha b hb k hk hk2 => ?_⟩
    simp only [List.mem_singleton] at hb
    subst hb
    have h1 := (h.el a ha).lt k hk
    have h2 := hyB k hk2
    omega
theorem netF_old {F : Nat → Bool} {a b k : Nat} (hk : k < a) : (F k || (decide (a ≤ k) && decide (k < b))) = F k := by
  rw [decide_eq_false (by omega)]; simp
/-- a row that took more -/
theorem Net.grew {w w1 w2 : World} {F : Nat → Bool} {g : Nat} {x : NetV} {d : List BSV} {A : Option Addr} {c m : Nat} (h : Net w1 F g x) (hF : ∀ k, F k = true → k < w.heap.size) (hw : w.heap.size ≤ w1.heap.size) (hd : OwnD w1 w.heap.size d) (hfew : x.n + m ≤ 256)
    (hown : w2.ownsRow 0 29 1 (.slice A (x.n + m) c) (x.n + m) (x.l.map BSV.val ++ d.map BSV.val)) (hg : w1.grownBy w2 (Value.slice x.A x.n x.c).ownBlock) (hat : (Value.slice A (x.n + m) c).ownBlock = (Value.slice x.A x.n x.c).ownBlock ∨ (Value.slice A (x.n + m) c).ownBlock = some w1.heap.size) :
    Net (w2.setCell ⟨g, 0, none⟩ (.slice A (x.n + m) c)) (fun k => F k || (decide (w.heap.size ≤ k) && decide (k < w2.heap.size))) g { x with A := A, n := x.n + m, c := c, l := x.l ++ d } := by
  have hl := h.len
  have hg2 : Blk w2 g 99 _ := h.blk.grown hg (fun e => own_blk_ne h.row h.blk (by decide) e.symm)
  have el2 : ∀ y ∈ x.l ++ d, OwnB w2 y := fun y hy => by
    rcases List.mem_append.1 hy with hy | hy
    · exact (h.el y hy).grown h.row hg
    · exact (hd.el y hy).grown h.row hg
  refine ⟨hg2.set_ 0 _, ?_, fun y hy => (el2 y hy).far (own_blk_ne (el2 y hy).own hg2 (by decide)) _, ?_, hfew, by simp [h.gF], ?_, ?_, ?_, h.s0, h.t0, h.l0⟩
  · have := own_far' hown (p := ⟨g, 0, none⟩) (own_blk_ne hown hg2 (by decide)) (.slice A (x.n + m) c)
    rw [← List.map_append] at this
    exact this
  · refine List.pairwise_append.2 ⟨h.ap, hd.ap, fun a ha b hb k hk hk2 => ?_⟩
    have h1 := hF k (h.eF a ha k hk)
    have h2 := hd.lo b hb k hk2
    omega
  · intro k hk
    have hlt := (hown.lt k hk).2
    rcases hat with e | e
    · rw [e] at hk; simp [h.rF k hk]
    · rw [e] at hk
      injection hk with hk
      subst hk
      rw [decide_eq_true hw, decide_eq_true hlt]; simp
  · intro y hy k hk
    rcases List.mem_append.1 hy with hy | hy
    · simp [h.eF y hy k hk]
    · have h1 := hd.lo y hy k hk
      have h2 := (el2 y (List.mem_append_right _ hy)).lt k hk
      rw [decide_eq_true h1, decide_eq_true h2]; simp
  · intro k hk
    simp only [Bool.or_eq_true, Bool.and_eq_true, decide_eq_true_eq] at hk
    rw [show (w2.setCell ⟨g, 0, none⟩ (.slice A (x.n + m) c)).heap.size = w2.heap.size by simp [World.setCell]]
    rcases hk with hk | hk
    · have := hF k hk; have := hg.size; omega
    · exact hk.2
end Go.Proofs.Ytcoaofaofmbfbaa

/- The walk of net's Send. (Printed by wip/tools/ntsend.py.) -/
namespace Go.Proofs.Ytcoaofaofmbfbaa
open Go.RowKit

theorem allMay_take {l : List LV} {j : Nat} (h : j < l.length) (h1 : allMay (l.take j) = true) (h2 : mayB l[j] = true) : allMay (l.take (j + 1)) = true := by
  unfold allMay at *
  rw [List.take_succ_eq_append_getElem h, List.all_append, h1]; simp [h2]
def SendPost (F : Nat → Bool) (g : Nat) (x : NetV) (l : List LV) (w : World) (e : Ending) (w' : World) : Prop :=
  ∃ (x' : NetV) (F' : Nat → Bool), e = .returned (.int .i64 (sendC x.n l)) ∧ Net w' F' g x' ∧ x'.p = x.p.send l ∧ (∀ k, k < w.heap.size → F' k = F k) ∧ Fr F w w'
set_option maxRecDepth 100000 in
set_option maxHeartbeats 3200000 in
theorem net_Send (F : Nat → Bool) (g : Nat) (x : NetV) (A : Option Addr) (n c : Nat) (l : List LV) (w : World) (h : Net w F g x) (hl : Ts w A n l) (hn : n ≤ 100) (hxn : ∀ y ∈ l, y.n ≤ 20000) (hb1 : x.sent + n ≤ 1000000000) (hb2 : x.lost + n ≤ 1000000000) :
    Calls Try.prog 27 #[.pointer (some ⟨g, 0, none⟩), .slice A n c] w (SendPost F g x l w) := by
  have hlen := hl.len
  have HE : Hid (∀ (W : World) (e : Ending), SendPost F g x l w e W ↔ ∃ (x' : NetV) (F' : Nat → Bool), e = .returned (.int .i64 (sendC x.n l)) ∧ Net W F' g x' ∧ x'.p = x.p.send l ∧ (∀ k, k < w.heap.size → F' k = F k) ∧ Fr F w W) := Lib.hid fun _ _ => Iff.rfl
  have HN := Lib.hid h
  have hsl := h.len
  clear h
  go_enter Try.func27, Try.ntmps27
  go_wp2_with fail
  go_loopw [5, 13] (fun v i wr => ∃ j : Nat, i = .int .i64 j ∧ j ≤ n ∧ (∃ d : List BSV, wr.ownsRow w.heap.size 29 1 v j (d.map BSV.val) ∧ OwnD wr w.heap.size d ∧ Hid (d.map BSV.b = (l.take j).map letB)) ∧ Hid (allMay (l.take j) = true) ∧ Ext w wr) (fun _ i _ => n - (intOf i).toNat)
  case atStart => exact ⟨0, rfl, by omega, ⟨[], World.ownsRow_nil _ _ _ _, ⟨by simp, by simp, .nil⟩, Lib.hid rfl⟩, Lib.hid rfl, Ext.refl w⟩
  case round =>
    obtain ⟨j, rfl, hj, ⟨d, hown, hD, HDB⟩, HAM, hx⟩ := hrel
    obtain ⟨v5, rfl⟩ : ∃ v5 : Value, v5 = u5 := ⟨_, rfl⟩
    have hdl : d.length = j := by have := congrArg List.length HDB.out; simp at this; omega
    by_cases hjn : j < n
    · have hjl : j < l.length := by omega
      obtain ⟨b, off, rfl, hbw, hcl⟩ := (hl.ext hx).at_ hjn
      have hyok : (l[j]).Ok wr := (hl.ext hx).ok l[j] (List.getElem_mem _)
      have hyn := hxn l[j] (List.getElem_mem _)
      have HTM := Lib.hid (fun hm => allMay_take hjl HAM.out hm)
      have HNO := Lib.hid (fun hm => allMay_no hjl hm)
      have HTB : Hid ((l.take (j + 1)).map letB = (l.take j).map letB ++ [letB l[j]]) := Lib.hid (by rw [List.take_succ_eq_append_getElem hjl, List.map_append]; rfl)
      generalize l[j] = y at *
      have hj0 : (0 : Int) ≤ j := by omega
      have hj1 : (j : Int) < n := by omega
      have e0 := hcl 0 (by omega)
      have e1 := hcl 1 (by omega)
      have e2 := hcl 2 (by omega)
      have e3 := hcl 3 (by omega)
      have e4 := hcl 4 (by omega)
      have e5 := hcl 5 (by omega)
      have e6 := hcl 6 (by omega)
      have e7 := hcl 7 (by omega)
      have e8 := hcl 8 (by omega)
      have e9 := hcl 9 (by omega)
      simp only [show Thing.cells y = LV.cells y from rfl, LV.cells, List.getElem?_cons_zero, List.getElem?_cons_succ, Nat.add_zero] at e0 e1 e2 e3 e4 e5 e6 e7 e8 e9
      clear hcl
      have hB := Blk.new wr 26 [.int .i64 y.kind, .int .i64 y.src, .int .i64 y.dst, .int .i64 y.term, .int .i64 y.a, .int .i64 y.b, .int .i64 y.c, .int .i64 y.bin, .bool y.ok, .slice y.A y.n y.cp]
      have xb : Ext wr (wr.alloc (.cells #[.int .i64 y.kind, .int .i64 y.src, .int .i64 y.dst, .int .i64 y.term, .int .i64 y.a, .int .i64 y.b, .int .i64 y.c, .int .i64 y.bin, .bool y.ok, .slice y.A y.n y.cp] 26)) := (Ext.refl wr).alloc _
      have HP := Lib.hid (letter_Put y none 0 0 [] _ (hyok.ext xb) hyn (Fs.nil_ _ _) (by omega))
      rw [lput_nil hyok] at HP
      have HLB := Lib.hid (fun hm => letB_len hyok hm)
      unfold LV.val at HP
      obtain ⟨m, hm⟩ : ∃ m, mayB y = m := ⟨_, rfl⟩
      rw [hm] at HP HTM HNO HLB
      clear hyok hm
      have HOWN := Lib.hid hown
      rcases m with _ | _
      · rw [if_neg (by simp)] at HP
        have HXE := Lib.hid (hx.trans xb)
        have HA := Lib.hid (HNO.out rfl)
        clear hown hD hx hbw
        go_wp2_with fail
        refine HP.out.mono ?_
        rintro e w2 ⟨v2, rfl, _, x2⟩
        go_wp2_with fail
        go_ret
        refine (HE.out _ _).2 ⟨x, F, by unfold sendC; rw [if_pos HA.out]; rfl, HN.out.ext (HXE.out.trans x2), by unfold NetP.send; rw [if_pos HA.out], fun _ _ => rfl, Fr.of_ext (HXE.out.trans x2) F⟩
      · rw [if_pos rfl] at HP
        have hbl := HLB.out rfl
        have HTM2 := Lib.hid (HTM.out rfl)
        dsimp only at HP
        generalize letB y = bs at *
        go_wp2_with fail
        refine HP.out.mono ?_
        rintro e w2 ⟨v2, rfl, hown2, x2⟩
        obtain ⟨A2, c2, rfl, _⟩ := own_form hown2
        have hb2' : Bs w2 A2 bs.length bs := Bs.of_own hown2
        have x02 := xb.trans x2
        have HC := Lib.hid (u8_Clone A2 bs.length c2 bs w2 hb2' (by omega))
        clear HP hown2 hb2' x2 e0 e1 e2 e3 e4 e5 e6 e7 e8 e9
        go_wp2_with fail
        refine HC.out.mono ?_
        rintro e w3 ⟨v3, rfl, hown3, x3⟩
        obtain ⟨A3, c3, rfl, _⟩ := own_form hown3
        have x03 := x02.trans x3
        have hrow3 := own_ext HOWN.out x03
        have hD3 := hD.ext x03
        have hx3 := hx.trans x03
        have hsz := hx3.size
        have hoy : OwnB (w3.alloc (.cells #[.slice A3 bs.length c3] 29)) ⟨A3, bs.length, c3, bs⟩ := ⟨own_ext (own_base hown3 (Nat.zero_le _)) ((Ext.refl w3).alloc _), hbl⟩
        have hoyB : ∀ k, (⟨A3, bs.length, c3, bs⟩ : BSV).blk = some k → w2.heap.size ≤ k := fun k hk => (hown3.lt k hk).1
        have x23 : Ext w2 (w3.alloc (.cells #[.slice A3 bs.length c3] 29)) := x3.alloc _
        have hD2 := hD.ext x02
        have hw2 : w.heap.size ≤ w2.heap.size := (hx.trans x02).size
        clear HC hown3 x3 hD HOWN hown
        go_wp2_with (at_builtin; refine wpList_app rowsT (by omega) _ rfl rfl rfl (hrow3.alloc _) rfl (rd_new1 _ (.slice A3 bs.length c3) _) (one1 rfl) (by unfold maxLen; omega) (by omega) (by simp; omega) ?_; intro v4 w4 hown4 hg4 hat4)
        have hD4 := hD2.app x23 hoy hoyB hw2 (hrow3.alloc _) hg4
        have x4 := Below.app (hx3.alloc _) hg4 (by simp; omega) (hrow3.alloc _) (Nat.le_refl _)
        have HD4 := Lib.hid hD4
        have HO4 := Lib.hid hown4
        have HX4 := Lib.hid x4
        clear hD4 hown4 x4 hg4 hat4 hrow3 hD2 hD3
        go_roundw
        case rel => exact ⟨j + 1, val_int (by omega), by omega, ⟨d ++ [⟨A3, bs.length, c3, bs⟩], by rw [List.map_append]; exact HO4.out, HD4.out, Lib.hid (by rw [List.map_append, HDB.out, HTB.out]; rfl)⟩, HTM2, HX4.out⟩
        case measure => simp [intOf]; omega
    · have hall : l.take j = l := List.take_of_length_le (by omega)
      rw [hall] at HDB HAM
      have hjn' : ¬ ((j : Int) < n) := by omega
      have hN := HN.out.ext hx
      obtain ⟨d0, d1, d2, d3⟩ := Net.cells hN
      have hfew := hN.few
      obtain rfl : n = j := by omega
      obtain ⟨A5, c5, rfl, hc5⟩ := own_form hown
      have hc5m := (own_bounds hown).2
      go_upto_region 11 with fail
      obtain ⟨q, hq⟩ : ∃ q : Nat, q = roomN x.n n := ⟨_, rfl⟩
      have hqe : (if (256 : Int) - (x.n : Int) < (n : Int) then (256 : Int) - (x.n : Int) else (n : Int)) = (q : Int) := by rw [hq]; unfold roomN; split <;> omega
      have hqn : q ≤ n := by rw [hq]; unfold roomN; omega
      have hqx : x.n + q ≤ 256 := by rw [hq]; unfold roomN; omega
      rw [hqe]
      have HQ := Lib.hid hq
      have q0 : (0 : Int) ≤ q := by omega
      have q1 : (q : Int) ≤ c5 := by omega
      have hrd : Rd wr.drew A5 q 1 ((d.take q).map BSV.val) := by
        have := (Rd.of_own hown).part (lo := 0) (m := q) (by omega) A5 (fun _ b off e => by simpa using e)
        simp only [List.drop_zero, Nat.mul_one] at this
        rw [List.map_take]
        exact this
      have hrow : wr.drew.ownsRow 0 29 1 (.slice x.A x.n x.c) x.n (x.l.map BSV.val) := hN.row.drew
      have HBG := Lib.hid hN.blk
      have HRW := Lib.hid hN.row
      have HNN := Lib.hid hN
      have HDD := Lib.hid (hD.take q)
      have HFu := Lib.hid HN.out.ub
      have HXX := Lib.hid hx
      have hs0 := hN.s0
      have hl0 := hN.l0
      clear hqe hq hN hD hown HN
      go_region_law (refine step_app rowsT (by omega) _ rfl rfl (by simp [Act.eval]) hrow (by simp [Act.eval]; rfl) hrd (bvs_cells _) (by unfold maxLen; omega) (by omega) (Nat.zero_le _) ?_; intro v6 w6 hown6 hg6 hat6; obtain ⟨A6, c6, rfl, _⟩ := own_form hown6; have hb6 := HBG.out.drew.grown hg6 (fun e => own_blk_ne hrow HBG.out.drew (by decide) e.symm); have e6 := hb6.cell 0; have z6 := hb6.frozen 0; simp only [List.getElem?_cons_zero] at e6)
      have hNd := IsNet.ext HNN.out ((Ext.refl wr).drew)
      have hw : w.heap.size ≤ wr.heap.size := HXX.out.size
      have hN1 := Net.grew (w := w) hNd HFu.out hw (HDD.out.ext ((Ext.refl wr).drew)) hqx hown6 hg6 hat6
      have hF1 := (((Fr.of_ext HXX.out F).trans (Fr.drew F wr)).trans (Fr.grown hg6 hNd.rF)).trans (Fr.setCell w6 (p := ⟨g, 0, none⟩) hNd.gF (.slice A6 (x.n + q) c6))
      obtain ⟨F', hF'⟩ : ∃ F' : Nat → Bool, F' = fun k => F k || (decide (w.heap.size ≤ k) && decide (k < w6.heap.size)) := ⟨_, rfl⟩
      rw [← hF'] at hN1
      have HFO : Hid (∀ k, k < w.heap.size → F' k = F k) := Lib.hid (fun k hk => by rw [hF']; exact netF_old hk)
      have hFgg : F g = true := hNd.gF
      clear hF' hown6 hg6 hat6 hNd hb6 e6 z6 hrow hrd HBG HRW HNN HDD HFu
      generalize w6.setCell ⟨g, 0, none⟩ (.slice A6 (x.n + q) c6) = W1 at hN1 hF1 ⊢
      have hA1 := Lib.hid (atom_Add g 1 x.sent n W1 (Net.cells hN1).2.1 (hN1.blk.frozen 1) (by omega) (by omega))
      have hN2 := Net.setSent hN1 (x.sent + n) (by omega)
      have hF2 := hF1.trans (Fr.setCell W1 (p := ⟨g, 1, none⟩) hFgg (.int .i64 (x.sent + n)))
      clear hN1 hF1
      go_wp2_with fail
      refine hA1.out.mono ?_
      rintro e w7 ⟨rfl, rfl⟩
      clear hA1
      generalize W1.setCell ⟨g, 1, none⟩ (.int .i64 (x.sent + n)) = W2 at *
      have hnq : (n : Int) - (q : Int) = ((n - q : Nat) : Int) := by omega
      have hA2 := Lib.hid (atom_Add g 3 x.lost ((n : Int) - (q : Int)) W2 (Net.cells hN2).2.2.2 (hN2.blk.frozen 3) (by omega) (by omega))
      have hN3 := Lib.hid (Net.setLost hN2 (x.lost + ((n : Int) - (q : Int))) (by omega))
      have hF3 := Lib.hid (hF2.trans (Fr.setCell W2 (p := ⟨g, 3, none⟩) hFgg (.int .i64 (x.lost + ((n : Int) - (q : Int))))))
      have HNQ := Lib.hid hnq
      clear hN2 hF2 hnq
      go_wp2_with fail
      refine hA2.out.mono ?_
      rintro e w8 ⟨rfl, rfl⟩
      clear hA2
      generalize W2.setCell ⟨g, 3, none⟩ (.int .i64 (x.lost + ((n : Int) - (q : Int)))) = W3 at *
      have HP : Hid (NetV.p (⟨A6, x.n + q, c6, x.l ++ d.take q, x.sent + n, x.taken, x.lost + ((n : Int) - (q : Int))⟩ : NetV) = x.p.send l) := Lib.hid (by
        unfold NetP.send
        rw [if_neg (by rw [HAM.out]; simp)]
        simp only [NetV.p, List.map_append, List.map_take, HDB.out, List.length_map, hsl, hlen, ← HQ.out, HNQ.out])
      by_cases hfull : q < n
      · have HC : Hid (sendC x.n l = 20) := Lib.hid (by unfold sendC; rw [if_neg (by rw [HAM.out]; simp), hlen, ← HQ.out, if_pos hfull])
        have hfi : (q : Int) < (n : Int) := by omega
        go_wp2_with fail
        go_ret
        exact (HE.out _ _).2 ⟨_, F', by rw [HC.out]; rfl, hN3.out, HP.out, HFO.out, hF3.out⟩
      · have HC : Hid (sendC x.n l = 0) := Lib.hid (by unfold sendC; rw [if_neg (by rw [HAM.out]; simp), hlen, ← HQ.out, if_neg hfull])
        have hfi : ¬ (q : Int) < (n : Int) := by omega
        go_wp2_with fail
        go_ret
        exact (HE.out _ _).2 ⟨_, F', by rw [HC.out]; rfl, hN3.out, HP.out, HFO.out, hF3.out⟩
end Go.Proofs.Ytcoaofaofmbfbaa

/- The walk of net's Twice. -/
namespace Go.Proofs.Ytcoaofaofmbfbaa
open Go.RowKit

def twiceC (n : Nat) (i : Int) : Int := if thereB n i = false then 1 else if 256 ≤ n then 20 else 0
def NetP.at (p : NetP) (i : Int) : List UInt8 := if thereB p.row.length i = true then (p.row[i.toNat]?).getD [] else []
def NetP.twice (p : NetP) (i : Int) : NetP := if thereB p.row.length i = false then p else if 256 ≤ p.row.length then p else ⟨p.row ++ [p.at i], p.sent + 1, p.taken, p.lost⟩
theorem NetV.at_p {w : World} {F : Nat → Bool} {g : Nat} {x : NetV} (h : Net w F g x) (i : Int) : x.p.at i = x.at i := by
  unfold NetP.at NetV.at
  rw [show x.p.row = x.l.map BSV.b from rfl, List.length_map, h.len, List.getElem?_map]
theorem NetV.len_p {w : World} {F : Nat → Bool} {g : Nat} {x : NetV} (h : Net w F g x) : x.p.row.length = x.n := by
  rw [show x.p.row = x.l.map BSV.b from rfl, List.length_map, h.len]
def TwicePost (F : Nat → Bool) (g : Nat) (x : NetV) (i : Int) (w : World) (e : Ending) (w' : World) : Prop :=
  ∃ (x' : NetV) (F' : Nat → Bool), e = .returned (.int .i64 (twiceC x.n i)) ∧ Net w' F' g x' ∧ x'.p = x.p.twice i ∧ (∀ k, k < w.heap.size → F' k = F k) ∧ Fr F w w'
set_option maxRecDepth 100000 in
set_option maxHeartbeats 3200000 in
theorem net_Twice (F : Nat → Bool) (g : Nat) (x : NetV) (i : Int) (w : World) (h : Net w F g x) (hb1 : x.sent + 1 ≤ 1000000000) :
    Calls Try.prog 29 #[.pointer (some ⟨g, 0, none⟩), .int .i64 i] w (TwicePost F g x i w) := by
  have HE : Hid (∀ (W : World) (e : Ending), TwicePost F g x i w e W ↔ ∃ (x' : NetV) (F' : Nat → Bool), e = .returned (.int .i64 (twiceC x.n i)) ∧ Net W F' g x' ∧ x'.p = x.p.twice i ∧ (∀ k, k < w.heap.size → F' k = F k) ∧ Fr F w W) := Lib.hid fun _ _ => Iff.rfl
  have HT := Lib.hid (net_there F g x i w h)
  have hpl := NetV.len_p h
  have hat := NetV.at_p h i
  have HN := Lib.hid h
  rcases there_cases x.n i with ⟨h1, _, k, rfl, hk⟩ | ⟨h1, _⟩
  case inr =>
    have HC : Hid (twiceC x.n i = 1) := Lib.hid (by unfold twiceC; rw [if_pos h1])
    have HP : Hid (x.p.twice i = x.p) := Lib.hid (by unfold NetP.twice; rw [hpl, if_pos h1])
    rw [h1] at HT
    clear h h1 hat hpl
    go_enter Try.func29, Try.ntmps29
    go_wp2_with fail
    refine HT.out.mono ?_
    rintro e w1 ⟨rfl, rfl⟩
    go_wp2_with fail
    go_ret
    exact (HE.out _ _).2 ⟨x, F, by rw [HC.out]; rfl, HN.out, HP.out.symm, fun _ _ => rfl, Fr.refl _ _⟩
  obtain ⟨d0, _⟩ := Net.cells h
  by_cases hfull : 256 ≤ x.n
  · have HC : Hid (twiceC x.n k = 20) := Lib.hid (by unfold twiceC; rw [if_neg (by rw [h1]; simp), if_pos hfull])
    have HP : Hid (x.p.twice k = x.p) := Lib.hid (by unfold NetP.twice; rw [hpl, if_neg (by rw [h1]; simp), if_pos hfull])
    have hfi : (256 : Int) ≤ x.n := by omega
    rw [h1] at HT
    clear h h1 hat hpl
    go_enter Try.func29, Try.ntmps29
    go_wp2_with fail
    refine HT.out.mono ?_
    rintro e w1 ⟨rfl, rfl⟩
    go_wp2_with fail
    go_ret
    exact (HE.out _ _).2 ⟨x, F, by rw [HC.out]; rfl, HN.out, HP.out.symm, fun _ _ => rfl, Fr.refl _ _⟩
  · have HC : Hid (twiceC x.n k = 0) := Lib.hid (by unfold twiceC; rw [if_neg (by rw [h1]; simp), if_neg hfull])
    have hkl : k < x.l.length := by rw [h.len]; exact hk
    have hy := at_there hk hkl
    have HP : Hid (x.p.twice k = ⟨x.p.row ++ [x.l[k].b], x.p.sent + 1, x.p.taken, x.p.lost⟩) := Lib.hid (by unfold NetP.twice; rw [hpl, if_neg (by rw [h1]; simp), if_neg hfull, hat, hy])
    have hfi : ¬ ((256 : Int) ≤ x.n) := by omega
    obtain ⟨b, hA, hc⟩ := h.row_cell hk
    have hoy := h.el x.l[k] (List.getElem_mem _)
    generalize x.l[k] = y at *
    have hi0 : (0 : Int) ≤ k := by omega
    have hi1 : (k : Int) < x.n := by omega
    have hlen : y.b.length = y.len := hoy.bs.len
    have hfewy := hoy.few
    have hrow := h.row
    rw [hA] at d0 hrow
    have HA := Lib.hid hA
    clear hA
    rw [h1] at HT
    unfold BSV.val at hc
    have HY := Lib.hid hoy
    have HROW := Lib.hid hrow
    have HCL := Lib.hid (u8_Clone y.A y.len y.cap y.b w.drew (show Bs w.drew y.A y.len y.b from hoy.bs) (by omega))
    have HBLK := Lib.hid h.blk
    have hs0 := h.s0
    clear h h1 hat hpl hy hoy hrow
    go_enter Try.func29, Try.ntmps29
    go_wp2_with fail
    refine HT.out.mono ?_
    rintro e w1 ⟨rfl, hw1⟩
    subst w1
    go_upto_region 5 with fail
    go_region_law (first
      | (refine step_app rowsT (by omega) _ rfl rfl (by simp [Act.eval]) (own_ext (own_ext HROW.out x3) ((Ext.refl w3).alloc _)) (by simp [Act.eval]; rfl) (rd_new1 _ _ _) (one1 rfl) (by unfold maxLen; omega) (by omega) (Nat.zero_le _) ?_; intro v6 w6 hown6 hg6 hat6; obtain ⟨A6, c6, rfl, _⟩ := own_form hown6; have hb6 := ((HBLK.out.ext x3).ext ((Ext.refl w3).alloc _)).grown hg6 (fun e => own_blk_ne (own_ext (own_ext HROW.out x3) ((Ext.refl w3).alloc (.cells #[.slice A3 y.len c3] 29))) ((HBLK.out.ext x3).ext ((Ext.refl w3).alloc _)) (by decide) e.symm); have e6 := hb6.cell 0; have z6 := hb6.frozen 0; simp only [List.getElem?_cons_zero] at e6)
      | (go_simp; go_at_call 65; refine HCL.out.mono ?_; rintro e w3 ⟨v3, rfl, hown3, x3'⟩; have x3 := ((Ext.refl w).drew).trans x3'; clear x3'; obtain ⟨A3, c3, rfl, _⟩ := own_form hown3; have d3 := x3.cell d0; have d3' := Ext.cell ((Ext.refl w3).alloc (.cells #[.slice A3 y.len c3] 29)) d3))
    all_goals
      have xal : Ext w (w3.alloc (.cells #[.slice A3 y.len c3] 29)) := x3.alloc _
      have hNd := IsNet.ext HN.out xal
      have hD : OwnD (w3.alloc (.cells #[.slice A3 y.len c3] 29)) w.heap.size [⟨A3, y.len, c3, y.b⟩] := ⟨fun z hz => by
          simp only [List.mem_singleton] at hz
          subst hz
          exact ⟨own_ext (own_base hown3 (Nat.zero_le _)) ((Ext.refl w3).alloc _), hfewy⟩, fun z hz q hq => by
          simp only [List.mem_singleton] at hz
          subst hz
          exact (hown3.lt q hq).1, List.pairwise_singleton _ _⟩
      have hN1 := Net.grew (w := w) (m := 1) (d := [⟨A3, y.len, c3, y.b⟩]) hNd HN.out.ub xal.size hD (by omega) hown6 (by rw [HA.out]; exact hg6) (by rw [HA.out]; exact hat6)
      have hF1 := ((Fr.of_ext xal F).trans (Fr.grown hg6 (by rw [← HA.out]; exact hNd.rF))).trans (Fr.setCell w6 (p := ⟨g, 0, none⟩) hNd.gF (.slice A6 (x.n + 1) c6))
      obtain ⟨F', hF'⟩ : ∃ F' : Nat → Bool, F' = fun k => F k || (decide (w.heap.size ≤ k) && decide (k < w6.heap.size)) := ⟨_, rfl⟩
      rw [← hF'] at hN1
      have HFO : Hid (∀ k, k < w.heap.size → F' k = F k) := Lib.hid (fun k hk => by rw [hF']; exact netF_old hk)
      have hFgg : F g = true := hNd.gF
      clear hF' hown6 hg6 hat6 hNd hb6 e6 z6 hown3 d3 d3' xal hD
      generalize w6.setCell ⟨g, 0, none⟩ (.slice A6 (x.n + 1) c6) = W1 at hN1 hF1 ⊢
      have hA1 := Lib.hid (atom_Add g 1 x.sent 1 W1 (Net.cells hN1).2.1 (hN1.blk.frozen 1) (by omega) (by omega))
      have hN2 := Lib.hid (Net.setSent hN1 (x.sent + 1) (by omega))
      have hF2 := Lib.hid (hF1.trans (Fr.setCell W1 (p := ⟨g, 1, none⟩) hFgg (.int .i64 (x.sent + 1))))
      clear hN1 hF1
      go_wp2_with fail
      refine hA1.out.mono ?_
      rintro e w7 ⟨rfl, hw7⟩
      subst w7
      go_wp2_with fail
      go_ret
      exact (HE.out _ _).2 ⟨_, F', by rw [HC.out]; rfl, hN2.out, by rw [HP.out]; simp only [NetV.p, List.map_append, List.map_cons, List.map_nil], HFO.out, hF2.out⟩
end Go.Proofs.Ytcoaofaofmbfbaa

/- The walk of net's Clone. (Printed by wip/tools/ntclone.py.) -/
namespace Go.Proofs.Ytcoaofaofmbfbaa
open Go.RowKit

def ClonePost (x : NetV) (w : World) (e : Ending) (w' : World) : Prop :=
  ∃ (x' : NetV) (F' : Nat → Bool), e = .returned (.pointer (some ⟨w.heap.size, 0, none⟩)) ∧ Net w' F' w.heap.size x' ∧ x'.p = x.p ∧ (∀ k, F' k = true → w.heap.size ≤ k) ∧ Ext w w'
set_option maxRecDepth 100000 in
set_option maxHeartbeats 3200000 in
theorem net_Clone (F : Nat → Bool) (g : Nat) (x : NetV) (w : World) (h : Net w F g x) :
    Calls Try.prog 34 #[.pointer (some ⟨g, 0, none⟩)] w (ClonePost x w) := by
  have HE : Hid (∀ (W : World) (e : Ending), ClonePost x w e W ↔ ∃ (x' : NetV) (F' : Nat → Bool), e = .returned (.pointer (some ⟨w.heap.size, 0, none⟩)) ∧ Net W F' w.heap.size x' ∧ x'.p = x.p ∧ (∀ k, F' k = true → w.heap.size ≤ k) ∧ Ext w W) := Lib.hid fun _ _ => Iff.rfl
  have HN := Lib.hid h
  have hlen := h.len
  have hfew := h.few
  have hsent := h.s0
  have htaken := h.t0
  have hlost := h.l0
  clear h
  go_enter Try.func34, Try.ntmps34
  go_wp2_with fail
  refine (net_New w).mono ?_
  rintro e w1 ⟨rfl, hc, x1⟩
  obtain ⟨d0, _⟩ := Net.cells (IsNet.ext HN.out x1)
  have HC := Lib.hid hc
  clear hc
  generalize hAv : x.A = Av at d0
  have HAV := Lib.hid hAv
  clear hAv
  go_wp2_with fail
  go_loopw [12] (fun i wr => ∃ j : Nat, i = .int .i64 j ∧ j ≤ x.n ∧ (∃ (cx : NetV) (F' : Nat → Bool), Net wr F' w.heap.size cx ∧ Hid (cx.p = ⟨(x.l.take j).map BSV.b, 0, 0, 0⟩) ∧ Hid (cx.n = j) ∧ cx.n ≤ j ∧ (∀ k, F' k = true → w.heap.size ≤ k)) ∧ Ext w wr) (fun i _ => x.n - (intOf i).toNat)
  case atStart => exact ⟨0, rfl, by omega, ⟨netZ, _, HC.out, Lib.hid rfl, Lib.hid rfl, Nat.le_refl _, fun k hk => by simp at hk; omega⟩, x1⟩
  case round =>
    clear HC x1 d0
    obtain ⟨j, rfl, hj, ⟨cx, F', hc, HCP, HCN, hcn, hF'⟩, hx⟩ := hrel
    by_cases hjn : j < x.n
    · have hkl : j < x.l.length := by omega
      have hNw := IsNet.ext HN.out hx
      obtain ⟨b, hA, hcell⟩ := hNw.row_cell hjn
      have hoy := hNw.el x.l[j] (List.getElem_mem _)
      have HTB : Hid ((x.l.take (j + 1)).map BSV.b = (x.l.take j).map BSV.b ++ [x.l[j].b]) := Lib.hid (by rw [List.take_succ_eq_append_getElem hkl, List.map_append]; rfl)
      generalize x.l[j] = y at *
      have hi0 : (0 : Int) ≤ j := by omega
      have hi1 : (j : Int) < x.n := by omega
      have hlen : y.b.length = y.len := hoy.bs.len
      have hfewy := hoy.few
      obtain ⟨r0, _⟩ := Net.cells hc
      have hrow := hc.row
      unfold BSV.val at hcell
      have HROW := Lib.hid hrow
      have HCL := Lib.hid (u8_Clone y.A y.len y.cap y.b wr.drew (show Bs wr.drew y.A y.len y.b from hoy.bs) (by omega))
      have HBLK := Lib.hid hc.blk
      have HCC := Lib.hid hc
      have hzc := hx.size
      clear hoy hrow hc hNw
      obtain rfl : Av = some ⟨b, 0, none⟩ := HAV.out.symm.trans hA
      clear hA
      go_upto_region 5 with fail
      go_region_law (first
        | (refine step_app rowsT (by omega) _ rfl rfl (by simp [Act.eval]) (own_ext (own_ext HROW.out x3) ((Ext.refl w3).alloc _)) (by simp [Act.eval]; rfl) (rd_new1 _ _ _) (one1 rfl) (by unfold maxLen; omega) (by omega) (Nat.zero_le _) ?_; intro v6 w6 hown6 hg6 hat6; obtain ⟨A6, c6, rfl, _⟩ := own_form hown6; have hb6 := ((HBLK.out.ext x3).ext ((Ext.refl w3).alloc _)).grown hg6 (fun e => own_blk_ne (own_ext (own_ext HROW.out x3) ((Ext.refl w3).alloc (.cells #[.slice A3 y.len c3] 29))) ((HBLK.out.ext x3).ext ((Ext.refl w3).alloc _)) (by decide) e.symm); have e6 := hb6.cell 0; have z6 := hb6.frozen 0; simp only [List.getElem?_cons_zero] at e6)
        | (go_simp; go_at_call 65; refine HCL.out.mono ?_; rintro e w3 ⟨v3, rfl, hown3, x3'⟩; have x3 := ((Ext.refl wr).drew).trans x3'; clear x3'; obtain ⟨A3, c3, rfl, _⟩ := own_form hown3; have d3 := x3.cell r0; have d3' := Ext.cell ((Ext.refl w3).alloc (.cells #[.slice A3 y.len c3] 29)) d3))
      all_goals
        have xal : Ext wr (w3.alloc (.cells #[.slice A3 y.len c3] 29)) := x3.alloc _
        have hNd := IsNet.ext HCC.out xal
        have hD : OwnD (w3.alloc (.cells #[.slice A3 y.len c3] 29)) wr.heap.size [⟨A3, y.len, c3, y.b⟩] := ⟨fun z hz => by
            simp only [List.mem_singleton] at hz
            subst hz
            exact ⟨own_ext (own_base hown3 (Nat.zero_le _)) ((Ext.refl w3).alloc _), hfewy⟩, fun z hz q hq => by
            simp only [List.mem_singleton] at hz
            subst hz
            exact (hown3.lt q hq).1, List.pairwise_singleton _ _⟩
        have hN1 := Lib.hid (Net.grew (w := wr) (m := 1) (d := [⟨A3, y.len, c3, y.b⟩]) hNd HCC.out.ub xal.size hD (by omega) hown6 hg6 hat6)
        have hx6 : Ext w w6 := Below.grown ((hx.trans xal)) hg6 (by have := (hx.trans xal).size; omega) (fun k hk => hF' k (HCC.out.rF k hk))
        have HX6 := Lib.hid (Ext.setCell hx6 (p := ⟨w.heap.size, 0, none⟩) (Nat.le_refl _) (.slice A6 (cx.n + 1) c6))
        clear hown6 hg6 hat6 hNd hb6 e6 z6 hown3 d3 d3' xal hD hx6
        go_wp2
        go_roundw
        case rel => exact ⟨j + 1, val_int (by omega), by omega, ⟨_, _, hN1.out, Lib.hid (by rw [HTB.out]; have := HCP.out; simp only [NetV.p, NetP.mk.injEq] at this ⊢; simp [this.1, this.2]), Lib.hid (by show cx.n + 1 = j + 1; rw [HCN.out]), by show cx.n + 1 ≤ j + 1; omega, fun k hk => by
          simp only [Bool.or_eq_true, Bool.and_eq_true, decide_eq_true_eq] at hk
          rcases hk with hk | hk
          · exact hF' k hk
          · omega⟩, HX6.out⟩
        case measure => simp [intOf]; omega
    · have hjn' : ¬ ((j : Int) < x.n) := by omega
      have HCP2 : Hid (cx.p = ⟨x.l.map BSV.b, 0, 0, 0⟩) := Lib.hid (by rw [HCP.out, List.take_of_length_le (by omega)])
      clear HCP
      obtain ⟨_, q1, q2, q3⟩ := Net.cells (IsNet.ext HN.out (hx.drew))
      obtain ⟨_, r1, r2, r3⟩ := Net.cells (IsNet.ext hc ((Ext.refl wr).drew))
      have hL := Lib.hid (atom_Load g 1 x.sent wr.drew q1)
      have hS := Lib.hid (atom_Store w.heap.size 1 x.sent _ wr.drew r1 ((IsNet.ext hc ((Ext.refl wr).drew)).blk.frozen 1))
      have hc1 := IsNet.ext (Net.setSent hc x.sent hsent) ((Ext.refl _).drew)
      have hxn : Ext w (wr.setCell ⟨w.heap.size, 1, none⟩ (.int .i64 x.sent)).drew := (hx.setCell (Nat.le_refl _) _).drew
      have HNn := Lib.hid hc1
      have HXn := Lib.hid hxn
      clear hc hc1 hx hxn
      go_upto_region 7 with fail
      go_region_law (first
        | (go_simp; go_at_call 69; refine hL.out.mono ?_; rintro e v1 ⟨rfl, hv1⟩; subst v1)
        | (go_simp; go_at_call 70; refine hS.out.mono ?_; rintro e v2 ⟨rfl, hv2⟩; subst v2))
      clear hL hS q1 q2 q3 r1 r2 r3
      have hc1 := HNn.out
      have hx := HXn.out
      clear HNn HXn
      generalize (wr.setCell ⟨w.heap.size, 1, none⟩ (.int .i64 x.sent)).drew = V1 at hc1 hx ⊢
      obtain ⟨_, q1, q2, q3⟩ := Net.cells (IsNet.ext HN.out (hx.drew))
      obtain ⟨_, r1, r2, r3⟩ := Net.cells (IsNet.ext hc1 ((Ext.refl V1).drew))
      have hL := Lib.hid (atom_Load g 2 x.taken V1.drew q2)
      have hS := Lib.hid (atom_Store w.heap.size 2 x.taken _ V1.drew r2 ((IsNet.ext hc1 ((Ext.refl V1).drew)).blk.frozen 2))
      have hc2 := IsNet.ext (Net.setTaken hc1 x.taken htaken) ((Ext.refl _).drew)
      have hxn : Ext w (V1.setCell ⟨w.heap.size, 2, none⟩ (.int .i64 x.taken)).drew := (hx.setCell (Nat.le_refl _) _).drew
      have HNn := Lib.hid hc2
      have HXn := Lib.hid hxn
      clear hc1 hc2 hx hxn
      go_upto_region 8 with fail
      go_region_law (first
        | (go_simp; go_at_call 69; refine hL.out.mono ?_; rintro e v1 ⟨rfl, hv1⟩; subst v1)
        | (go_simp; go_at_call 70; refine hS.out.mono ?_; rintro e v2 ⟨rfl, hv2⟩; subst v2))
      clear hL hS q1 q2 q3 r1 r2 r3
      have hc2 := HNn.out
      have hx := HXn.out
      clear HNn HXn
      generalize (V1.setCell ⟨w.heap.size, 2, none⟩ (.int .i64 x.taken)).drew = V2 at hc2 hx ⊢
      obtain ⟨_, q1, q2, q3⟩ := Net.cells (IsNet.ext HN.out (hx.drew))
      obtain ⟨_, r1, r2, r3⟩ := Net.cells (IsNet.ext hc2 ((Ext.refl V2).drew))
      have hL := Lib.hid (atom_Load g 3 x.lost V2.drew q3)
      have hS := Lib.hid (atom_Store w.heap.size 3 x.lost _ V2.drew r3 ((IsNet.ext hc2 ((Ext.refl V2).drew)).blk.frozen 3))
      have hc3 := IsNet.ext (Net.setLost hc2 x.lost hlost) ((Ext.refl _).drew)
      have hxn : Ext w (V2.setCell ⟨w.heap.size, 3, none⟩ (.int .i64 x.lost)).drew := (hx.setCell (Nat.le_refl _) _).drew
      have HNn := Lib.hid hc3
      have HXn := Lib.hid hxn
      clear hc2 hc3 hx hxn
      go_upto_region 9 with fail
      go_region_law (first
        | (go_simp; go_at_call 69; refine hL.out.mono ?_; rintro e v1 ⟨rfl, hv1⟩; subst v1)
        | (go_simp; go_at_call 70; refine hS.out.mono ?_; rintro e v2 ⟨rfl, hv2⟩; subst v2))
      clear hL hS q1 q2 q3 r1 r2 r3
      have hc3 := HNn.out
      have hx := HXn.out
      clear HNn HXn
      generalize (V2.setCell ⟨w.heap.size, 3, none⟩ (.int .i64 x.lost)).drew = V3 at hc3 hx ⊢
      have HP := Lib.hid hc3
      have HX := Lib.hid hx
      clear hc3 hx
      go_wp2_with fail
      go_ret
      exact (HE.out _ _).2 ⟨_, F', rfl, HP.out, by have := HCP2.out; simp only [NetV.p, NetP.mk.injEq] at this ⊢; exact ⟨this.1, trivial, trivial, trivial⟩, hF', HX.out⟩
end Go.Proofs.Ytcoaofaofmbfbaa

/- Arguments: rows of letters; rows of things that are done to a net. -/
namespace Go.Proofs.Ytcoaofaofmbfbaa
open Go.RowKit Go.Deep Go.ChangeShapes Go.WideShapes

/-- something that is done -/
structure OpV where
  kind : Nat
  a : Int
  b : Int
  c : Int
  A : Option Addr
  n : Nat
  cp : Nat
  l : List LV
def OpV.cells (o : OpV) : List Value := [.int .u8 o.kind, .int .i64 o.a, .int .i64 o.b, .int .i64 o.c, .slice o.A o.n o.cp]
structure OpV.Ok (o : OpV) (w : World) : Prop where
  ls : Ts w o.A o.n o.l
  le : o.n ≤ o.cp
  cap : o.cp ≤ maxLen
  k : o.kind < 256
  u0 : I64 o.a
  u1 : I64 o.b
  u2 : I64 o.c
theorem OpV.Ok.ext {o : OpV} {w w' : World} (h : o.Ok w) (he : Ext w w') : o.Ok w' := ⟨h.ls.ext he, h.le, h.cap, h.k, h.u0, h.u1, h.u2⟩
instance : Thing OpV 5 where
  cells := OpV.cells
  ok := OpV.Ok
  len := fun _ => rfl
  one := fun f u hu => by
    simp only [OpV.cells, List.mem_cons, List.not_mem_nil, or_false] at hu
    rcases hu with rfl | rfl | rfl | rfl | rfl <;> rfl
  ext := fun h he => h.ext he
section
variable {H : Type} {enc : TypeId × Value → H} {P : Program} {w : World} {base b0 : Nat} {spare : Nat → Bool} {held : Bool} {r : Reach}
/-- a row of letters -/
theorem Tr.letters {tl ts tq t e ti tb tn : TypeId} {gs fs : Array Field} {v : Value}
    (hl : P.underlying tl = some (.slice ts)) (hs : P.underlying ts = some (.struct gs)) (hgs : gs.toList.map (·.type) = [ti, ti, ti, ti, ti, ti, ti, ti, tq, t]) (hones : oneCellFields P gs = true) (hCs : P.cellsOf ts = 10) (hq : P.underlying tq = some .bool)
    (ht : P.underlying t = some (.slice e)) (he : P.underlying e = some (.struct fs)) (hts : fs.toList.map (·.type) = [ti, tb]) (hone : oneCellFields P fs = true) (hC : P.cellsOf e = 2)
    (hi : P.underlying ti = some (.int .i64)) (hb : P.underlying tb = some (.slice tn)) (hn : P.underlying tn = some (.int .u8)) (hcn : P.cellsOf tn = 1)
    (h : Tr enc P w base spare held tl [v]) : ∃ A n c, ∃ l : List LV, v = .slice A n c ∧ Ts w A n l ∧ n ≤ c ∧ c ≤ maxLen := by
  obtain ⟨A, n, c, rows, hvv, hnc, hcm, hrl, hrows, hrd⟩ := h.slice hl hCs (by omega)
  obtain ⟨l, hl2, hok⟩ := list_map_of LV.cells (fun f => f.Ok w) rows (fun row hr => by
    obtain ⟨hlen, htr⟩ := hrows row hr
    obtain ⟨_, hf⟩ := htr.typed hs hgs hones hCs
    match row, hlen with
    | [x0, x1, x2, x3, x4, x5, x6, x7, x8, x9], _ =>
      obtain ⟨v0, e0, t0⟩ := hf 0 ti rfl
      obtain ⟨v1, e1, t1⟩ := hf 1 ti rfl
      obtain ⟨v2, e2, t2⟩ := hf 2 ti rfl
      obtain ⟨v3, e3, t3⟩ := hf 3 ti rfl
      obtain ⟨v4, e4, t4⟩ := hf 4 ti rfl
      obtain ⟨v5, e5, t5⟩ := hf 5 ti rfl
      obtain ⟨v6, e6, t6⟩ := hf 6 ti rfl
      obtain ⟨v7, e7, t7⟩ := hf 7 ti rfl
      obtain ⟨v8, e8, t8⟩ := hf 8 tq rfl
      obtain ⟨v9, e9, t9⟩ := hf 9 t rfl
      simp only [List.getElem?_cons_zero, List.getElem?_cons_succ, Option.some.injEq] at e0 e1 e2 e3 e4 e5 e6 e7 e8 e9
      subst e0 e1 e2 e3 e4 e5 e6 e7 e8 e9
      obtain ⟨a0, rfl, h0⟩ := t0.i64 hi
      obtain ⟨a1, rfl, h1⟩ := t1.i64 hi
      obtain ⟨a2, rfl, h2⟩ := t2.i64 hi
      obtain ⟨a3, rfl, h3⟩ := t3.i64 hi
      obtain ⟨a4, rfl, h4⟩ := t4.i64 hi
      obtain ⟨a5, rfl, h5⟩ := t5.i64 hi
      obtain ⟨a6, rfl, h6⟩ := t6.i64 hi
      obtain ⟨a7, rfl, h7⟩ := t7.i64 hi
      obtain ⟨q, rfl⟩ := t8.bool hq
      obtain ⟨A, n, c, l, rfl, hE, hnc, hcm⟩ := t9.entries ht he hts hone hC hi hb hn hcn
      exact ⟨⟨a0, a1, a2, a3, a4, a5, a6, a7, q, A, n, c, l⟩, rfl, ⟨hE, hnc, hcm, h0, h1, h2, h3, h4, h5, h6, h7⟩⟩)
  exact ⟨A, n, c, l, hvv, ⟨by rw [hl2] at hrd; exact hrd, hok, by omega⟩, hnc, hcm⟩
theorem open_letters {tl ts tq t e ti tb tn : TypeId} {gs fs : Array Field} {v : Value} {d : DataW H} {p : List MemPlace}
    (hl : P.underlying tl = some (.slice ts)) (hs : P.underlying ts = some (.struct gs)) (hgs : gs.toList.map (·.type) = [ti, ti, ti, ti, ti, ti, ti, ti, tq, t]) (hones : oneCellFields P gs = true) (hCs : P.cellsOf ts = 10) (hq : P.underlying tq = some .bool)
    (ht : P.underlying t = some (.slice e)) (he : P.underlying e = some (.struct fs)) (hts : fs.toList.map (·.type) = [ti, tb]) (hone : oneCellFields P fs = true) (hC : P.cellsOf e = 2)
    (hi : P.underlying ti = some (.int .i64)) (hb : P.underlying tb = some (.slice tn)) (hn : P.underlying tn = some (.int .u8)) (hcn : P.cellsOf tn = 1)
    (hv : Value.okWide P w r b0 tl v) (h : DataW.Trod enc P w base spare held tl v d p) : ∃ A n c, ∃ l : List LV, v = .slice A n c ∧ Ts w A n l ∧ n ≤ c ∧ c ≤ maxLen :=
  (open_slice_val hl hv h).letters hl hs hgs hones hCs hq ht he hts hone hC hi hb hn hcn
/-- a row of things that are done -/
theorem open_ops {tz tp tl ts tq t e ti tb tn : TypeId} {os gs fs : Array Field} {v : Value} {d : DataW H} {p : List MemPlace}
    (ho : P.underlying tz = some (.slice tp)) (hp : P.underlying tp = some (.struct os)) (hos : os.toList.map (·.type) = [tn, ti, ti, ti, tl]) (honep : oneCellFields P os = true) (hCp : P.cellsOf tp = 5)
    (hl : P.underlying tl = some (.slice ts)) (hs : P.underlying ts = some (.struct gs)) (hgs : gs.toList.map (·.type) = [ti, ti, ti, ti, ti, ti, ti, ti, tq, t]) (hones : oneCellFields P gs = true) (hCs : P.cellsOf ts = 10) (hq : P.underlying tq = some .bool)
    (ht : P.underlying t = some (.slice e)) (he : P.underlying e = some (.struct fs)) (hts : fs.toList.map (·.type) = [ti, tb]) (hone : oneCellFields P fs = true) (hC : P.cellsOf e = 2)
    (hi : P.underlying ti = some (.int .i64)) (hb : P.underlying tb = some (.slice tn)) (hn : P.underlying tn = some (.int .u8)) (hcn : P.cellsOf tn = 1)
    (hv : Value.okWide P w r b0 tz v) (h : DataW.Trod enc P w base spare held tz v d p) : ∃ A n c, ∃ l : List OpV, v = .slice A n c ∧ Ts w A n l ∧ n ≤ c ∧ c ≤ maxLen := by
  obtain ⟨A, n, c, rows, hvv, hnc, hcm, hrl, hrows, hrd⟩ := (open_slice_val ho hv h).slice ho hCp (by omega)
  obtain ⟨l, hl2, hok⟩ := list_map_of OpV.cells (fun f => f.Ok w) rows (fun row hr => by
    obtain ⟨hlen, htr⟩ := hrows row hr
    obtain ⟨_, hf⟩ := htr.typed hp hos honep hCp
    match row, hlen with
    | [x0, x1, x2, x3, x4], _ =>
      obtain ⟨v0, e0, t0⟩ := hf 0 tn rfl
      obtain ⟨v1, e1, t1⟩ := hf 1 ti rfl
      obtain ⟨v2, e2, t2⟩ := hf 2 ti rfl
      obtain ⟨v3, e3, t3⟩ := hf 3 ti rfl
      obtain ⟨v4, e4, t4⟩ := hf 4 tl rfl
      simp only [List.getElem?_cons_zero, List.getElem?_cons_succ, Option.some.injEq] at e0 e1 e2 e3 e4
      subst e0 e1 e2 e3 e4
      obtain ⟨k, rfl, hk⟩ := t0.int hn
      obtain ⟨a1, rfl, h1⟩ := t1.i64 hi
      obtain ⟨a2, rfl, h2⟩ := t2.i64 hi
      obtain ⟨a3, rfl, h3⟩ := t3.i64 hi
      obtain ⟨A, n, c, l, rfl, hL, hnc, hcm⟩ := t4.letters hl hs hgs hones hCs hq ht he hts hone hC hi hb hn hcn
      have hk2 : 0 ≤ k ∧ k < 256 := by
        simp [Lit.wf, IntKind.min, IntKind.max, IntKind.signed, IntKind.bits] at hk
        omega
      exact ⟨⟨k.toNat, a1, a2, a3, A, n, c, l⟩, by simp only [OpV.cells]; rw [Int.toNat_of_nonneg hk2.1], ⟨hL, hnc, hcm, by dsimp only; omega, h1, h2, h3⟩⟩)
  exact ⟨A, n, c, l, hvv, ⟨by rw [hl2] at hrd; exact hrd, hok, by omega⟩, hnc, hcm⟩
end
end Go.Proofs.Ytcoaofaofmbfbaa
