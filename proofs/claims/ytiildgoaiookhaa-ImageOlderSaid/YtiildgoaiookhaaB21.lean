/- Words and walks that the last text of this claim stands on: ImO, IrA, IrB. No condition. -/
import Derived.Test.YtiildgoaiookhaaB19
import Derived.Test.YtiildgoaiookhaaB20
import Derived.Test.YtiildgoaiookhaaB15
import Derived.Test.YtiildgoaiookhaaB09
import Derived.Test.YtiildgoaiookhaaB18
import Derived.Test.YtiildgoaiookhaaB17
import Derived.Test.YtiildgoaiookhaaB14
import Derived.Test.YtiildgoaiookhaaB13
import Derived.Test.YtiildgoaiookhaaB08
/- The walks of own, short, shown of layer 10's laws. -/
namespace Go.Proofs.Ytiildgoaiookhaa
open Go.RowKit

theorem listsT : SliceT Try.prog 49 48 1 24 := .mk' Try.underlying49 (z := .slice none 0 0) (by kernel_rfl) rfl
/-- a list of fields of the call's own, whose bytes are older -/
structure LW (w0 w : World) (B : Nat) (x : WV) : Prop where
  row : w.ownsRow B 96 4 (.slice x.A x.len x.cap) x.len (rowOf x.l)
  ok : ∀ f ∈ x.l, f.Ok w0
theorem LW.ok_ {w0 w : World} {B : Nat} {x : WV} (h : LW w0 w B x) (he : Ext w0 w) : x.Ok w :=
  ⟨Fs.of_own h.row fun f hf => (h.ok f hf).ext he, (own_bounds h.row).1, (own_bounds h.row).2⟩
theorem LW.ext {w0 w w' : World} {B : Nat} {x : WV} (h : LW w0 w B x) (he : Ext w w') : LW w0 w' B x := ⟨own_ext h.row he, h.ok⟩
theorem LW.grown {w0 w w' : World} {B B' : Nat} {x : WV} {v : Value} {n : Nat} {xs : List Value} (h : LW w0 w B x) (hv : w.ownsRow B' 48 1 v n xs) (hg : w.grownBy w' v.ownBlock) : LW w0 w' B x :=
  ⟨own_grown h.row hg (own_apart h.row hv (by decide)), h.ok⟩
theorem LW.far {w0 w : World} {B g i : Nat} {x : WV} {l : List Value} (h : LW w0 w B x) (hb : Blk w g 51 l) (u : Value) : LW w0 (w.setCell ⟨g, i, none⟩ u) B x :=
  ⟨own_far' h.row (own_blk_ne h.row hb (by decide)) u, h.ok⟩
/-- a rest whose rows are the call's own -/
structure OwnY (w0 w : World) (B : Nat) (y : XV) : Prop where
  top : w.ownsRow B 96 4 (.slice y.A1 y.n1 y.c1) y.n1 (rowOf y.top)
  ok : ∀ f ∈ y.top, f.Ok w0
  row : w.ownsRow B 48 1 (.slice y.A2 y.n2 y.c2) y.n2 (thingsOf y.sns)
  lw : ∀ f ∈ y.sns, LW w0 w B f
theorem OwnY.ok_ {w0 w : World} {B : Nat} {y : XV} (h : OwnY w0 w B y) (he : Ext w0 w) : y.Ok w :=
  ⟨Fs.of_own h.top fun f hf => (h.ok f hf).ext he, (own_bounds h.top).1, (own_bounds h.top).2, Ts.of_own h.row (fun f hf => (h.lw f hf).ok_ he) (by omega), (own_bounds h.row).1, (own_bounds h.row).2⟩
theorem OwnY.ext {w0 w w' : World} {B : Nat} {y : XV} (h : OwnY w0 w B y) (he : Ext w w') : OwnY w0 w' B y := ⟨own_ext h.top he, h.ok, own_ext h.row he, fun f hf => (h.lw f hf).ext he⟩
theorem OwnY.set {w0 w : World} {B : Nat} {y : XV} (h : OwnY w0 w B y) {p : Addr} (hp : p.block < B) (u : Value) : OwnY w0 (w.setCell p u) B y :=
  ⟨own_set h.top hp u, h.ok, own_set h.row hp u, fun f hf => ⟨own_set (h.lw f hf).row hp u, (h.lw f hf).ok⟩⟩
theorem OwnY.to {w0 w : World} {B B' : Nat} {y : XV} (h : OwnY w0 w B y) (hB : B' ≤ B) : OwnY w0 w B' y := ⟨own_base h.top hB, h.ok, own_base h.row hB, fun f hf => ⟨own_base (h.lw f hf).row hB, (h.lw f hf).ok⟩⟩
theorem wv_one (f : WV) : ∀ u ∈ [Value.slice f.A f.len f.cap], u.oneCell' = true := Thing.one f
theorem rd_at1 {w : World} {g : Nat} {t : TypeId} (a : Value) (hb : Blk w g t [a]) : Rd w (some ⟨g, 0, none⟩) 1 1 [a] := by
  refine ⟨rfl, fun _ => ⟨g, 0, rfl, hb.lt, fun j u hu => ?_⟩⟩
  rw [Nat.zero_add, hb.cell]; exact hu

theorem own_end {w w0 wr : World} {Av Ar : Option Addr} {m cv j cr : Nat} {top : List FV} {more : List (List FV)} {L : List WV} (hT : wr.ownsRow w0.heap.size 96 4 (.slice Av m cv) m (rowOf top)) (hrow : wr.ownsRow w0.heap.size 48 1 (.slice Ar j cr) j (thingsOf L))
    (hL : ∀ y ∈ L, LW w wr w0.heap.size y) (hx : Ext w wr) (hg : w.heap.size + 1 < w0.heap.size) (hok : ∀ f ∈ top, f.Ok w) (hM : L.map WV.l = (more.take 20).map some12) (hLl : L.length = j) (hj : j ≤ 20) (hm : top.length ≤ 12) :
    ∃ y : XV, (Value.agg #[.slice Av m cv, .slice Ar j cr] : Value) = y.val ∧ OwnY w ((wr.setCell ⟨w.heap.size + 1, 0, none⟩ (.slice Av m cv)).setCell ⟨w.heap.size + 1, 1, none⟩ (.slice Ar j cr)) w.heap.size y ∧ y.top = top ∧ y.more = (more.take 20).map some12 ∧ y.Few ∧ Ext w ((wr.setCell ⟨w.heap.size + 1, 0, none⟩ (.slice Av m cv)).setCell ⟨w.heap.size + 1, 1, none⟩ (.slice Ar j cr)) := by
  have xe : Ext w ((wr.setCell ⟨w.heap.size + 1, 0, none⟩ (.slice Av m cv)).setCell ⟨w.heap.size + 1, 1, none⟩ (.slice Ar j cr)) := (hx.setCell (p := ⟨w.heap.size + 1, 0, none⟩) (Nat.le_succ _) _).setCell (p := ⟨w.heap.size + 1, 1, none⟩) (Nat.le_succ _) _
  have s2 : ∀ {e : TypeId} {s n : Nat} {v : Value} {xs : List Value}, wr.ownsRow w0.heap.size e s v n xs → ((wr.setCell ⟨w.heap.size + 1, 0, none⟩ (.slice Av m cv)).setCell ⟨w.heap.size + 1, 1, none⟩ (.slice Ar j cr)).ownsRow w0.heap.size e s v n xs :=
    fun h => own_set (own_set h (p := ⟨w.heap.size + 1, 0, none⟩) hg _) (p := ⟨w.heap.size + 1, 1, none⟩) hg _
  have hml : m = top.length := by have := hT.1; rw [rowOf_len] at this; omega
  refine ⟨⟨Av, m, cv, top, Ar, j, cr, L⟩, rfl, ⟨own_base (s2 hT) (by omega), hok, own_base (s2 hrow) (by omega), fun f hf => ⟨own_base (s2 (hL f hf).row) (by omega), (hL f hf).ok⟩⟩, rfl, hM, ⟨?_, ?_, ?_⟩, xe⟩
  · show m ≤ 18000; omega
  · show j ≤ 18000; omega
  · intro y hy
    show y.len ≤ 18000
    have h1 := (hL y hy).row.1
    rw [rowOf_len] at h1
    have h2 : y.l ∈ (more.take 20).map some12 := by rw [← hM]; exact List.mem_map_of_mem hy
    obtain ⟨r, _, e⟩ := List.mem_map.1 h2
    have h3 := some12_len r
    rw [e] at h3
    omega
set_option maxRecDepth 100000 in
set_option maxHeartbeats 1600000 in
theorem law10_own (x : XV) (w : World) (hx : x.Ok w) :
    Calls Try.prog 36 #[x.val] w fun e w' => ∃ y : XV, e = .returned y.val ∧ OwnY w w' w.heap.size y ∧ y.top = some12 x.top ∧ y.more = (x.more.take 20).map some12 ∧ y.Few ∧ Ext w w' := by
  obtain ⟨A1, n1, c1, top, A2, n2, c2, more⟩ := x
  obtain ⟨t1, le1, cap1, t2, le2, cap2⟩ := hx
  dsimp only at t1 le1 cap1 t2 le2 cap2
  unfold XV.val XV.more
  dsimp only
  have hl2 := t2.len
  have hmx : n2 ≤ 9223372036854775807 := by unfold maxLen at cap2; omega
  have hR0 := (Blk.new w 51 [.slice A1 n1 c1, .slice A2 n2 c2]).alloc (.cells #[.slice none 0 0, .slice none 0 0] 51)
  have hZ0 := Blk.new (w.alloc (.cells #[.slice A1 n1 c1, .slice A2 n2 c2] 51)) 51 [.slice none 0 0, .slice none 0 0]
  have xa : Ext w ((w.alloc (.cells #[.slice A1 n1 c1, .slice A2 n2 c2] 51)).alloc (.cells #[.slice none 0 0, .slice none 0 0] 51)) := ((Ext.refl w).alloc _).alloc _
  rw [show (w.alloc (.cells #[.slice A1 n1 c1, .slice A2 n2 c2] 51)).heap.size = w.heap.size + 1 by simp] at hZ0
  go_enter Try.func36, Try.ntmps36
  go_upto_region 1 with fail
  generalize ((w.alloc (.cells #[.slice A1 n1 c1, .slice A2 n2 c2] 51)).alloc (.cells #[.slice none 0 0, .slice none 0 0] 51)) = W0 at *
  have d0 := hR0.cell 0
  simp only [List.getElem?_cons_zero] at d0
  have HR0 := Lib.hid hR0
  have HZ0 := Lib.hid hZ0
  have HX0 := Lib.hid xa
  clear hR0 hZ0 xa
  go_wp2_with fail
  refine (law10_some A1 n1 c1 top W0 (t1.ext HX0.out) cap1 le1).mono ?_
  rintro e w1 ⟨v1, rfl, hown1, x1⟩
  obtain ⟨Av, cv, rfl, _⟩ := own_form hown1
  clear d0
  go_upto_region 2 with fail
  have x2 : Ext W0 (w1.alloc (.cells #[.slice Av (min 12 n1) cv, .slice none 0 0] 51)) := x1.alloc _
  have hO := Blk.new w1 51 [.slice Av (min 12 n1) cv, .slice none 0 0]
  have hT := own_ext hown1 ((Ext.refl w1).alloc (.cells #[.slice Av (min 12 n1) cv, .slice none 0 0] 51))
  have hgl := x1.size
  generalize w1.alloc (.cells #[.slice Av (min 12 n1) cv, .slice none 0 0] 51) = W1 at *
  generalize w1.heap.size = g at hO hgl ⊢
  clear hown1 x1
  have HO := Lib.hid hO
  have HX2 := Lib.hid x2
  clear hO x2
  go_wp2_with fail
  go_loopw [4] (fun i wr => ∃ j : Nat, i = .int .i64 j ∧ j ≤ n2 ∧ j ≤ 20 ∧ (∃ (L : List WV) (v : Value), L.map WV.l = ((more.map WV.l).take j).map some12 ∧ (∀ f ∈ L, LW w wr W0.heap.size f) ∧ wr.ownsRow W0.heap.size 48 1 v j (thingsOf L) ∧ Blk wr g 51 [.slice Av (min 12 n1) cv, v]) ∧ wr.ownsRow W0.heap.size 96 4 (.slice Av (min 12 n1) cv) (min 12 n1) (rowOf (some12 top)) ∧ Ext W0 wr) (fun i _ => n2 - (intOf i).toNat)
  case atStart => exact ⟨0, rfl, by omega, by omega, ⟨[], .slice none 0 0, rfl, by simp, World.ownsRow_nil _ _ _ _, HO.out⟩, hT, HX2.out⟩
  case round =>
    clear HO HX2 hT
    obtain ⟨j, rfl, hj, hj20, ⟨L, v, hL, hLW, hrow, hO⟩, hT, hx⟩ := hrel
    have d1 := (HR0.out.ext hx).cell 1
    simp only [List.getElem?_cons_zero, List.getElem?_cons_succ] at d1
    by_cases hjn : j < n2
    · have hjl : j < more.length := by omega
      by_cases h20 : j < 20
      · obtain ⟨bb, off, rfl, hc⟩ := Wss.cell (t2.ext (HX0.out.trans hx)) hjn hjl
        have hok := t2.ok more[j] (List.getElem_mem _)
        have Hsn : Hid ((more.map WV.l).take (j + 1) = (more.map WV.l).take j ++ [more[j].l]) := Lib.hid (by rw [List.take_succ_eq_append_getElem (by simpa using hjl)]; simp)
        generalize more[j] = f at *
        have hj0 : (0 : Int) ≤ j := by omega
        have hj1 : (j : Int) < n2 := by omega
        have hj2 : (j : Int) < 20 := by omega
        have HSM := Lib.hid (law10_some f.A f.len f.cap f.l wr.drew ((hok.ext (HX0.out.trans hx)).fs.ext (Ext.refl wr).drew) hok.cap hok.le)
        have HFO := Lib.hid (some12_ok hok.fs.ok)
        have HXR := Lib.hid hx
        have HHL := Lib.hid hL
        have HLWW := Lib.hid hLW
        have HRW := Lib.hid hrow
        have HOO := Lib.hid hO
        have HTT := Lib.hid hT
        have hsz := hx.size
        have o1 := hO.cell 1
        simp only [List.getElem?_cons_zero, List.getElem?_cons_succ] at o1
        obtain ⟨Ar, cr, rfl, _⟩ := own_form hrow
        clear hok hL hLW hrow hO hT hx
        go_upto_region 5 with fail
        go_region_law (first
          | (refine step_app listsT (by omega) _ rfl rfl (by simp [Act.eval]) (own_ext (own_ext HRW.out x3) ((Ext.refl w3).alloc _)) (by simp [Act.eval]; rfl) (rd_new1 _ _ _) (one1 rfl) (by unfold maxLen; omega) (by omega) (by simp; omega) ?_; intro v6 w6 hown6 hg6 hat6; obtain ⟨A6, c6, rfl, _⟩ := own_form hown6; have hb6 := ((HOO.out.ext x3).ext ((Ext.refl w3).alloc (.cells #[.slice A3 (min 12 f.len) c3] 48))).grown hg6 (fun e => own_blk_ne (own_ext (own_ext HRW.out x3) ((Ext.refl w3).alloc (.cells #[.slice A3 (min 12 f.len) c3] 48))) ((HOO.out.ext x3).ext ((Ext.refl w3).alloc _)) (by decide) e.symm); have e6 := hb6.cell 1; have z6 := hb6.frozen 1; simp only [List.getElem?_cons_zero, List.getElem?_cons_succ] at e6)
          | (go_simp; go_at_call 74; refine HSM.out.mono ?_; rintro e w3 ⟨v3, rfl, hown3, x3'⟩; obtain ⟨A3, c3, rfl, _⟩ := own_form hown3; have x3 := ((Ext.refl wr).drew).trans x3'; clear x3'; have hs3 : W0.heap.size ≤ w3.heap.size := Nat.le_trans hsz x3.size; have o3 := x3.cell o1; have o3' := Ext.cell ((Ext.refl w3).alloc (.cells #[.slice A3 (min 12 f.len) c3] 48)) o3))
        all_goals
          have xal : Ext wr (w3.alloc (.cells #[.slice A3 (min 12 f.len) c3] 48)) := x3.alloc _
          have xr6 : Ext W0 w6 := Below.app (HXR.out.trans xal) hg6 (HXR.out.trans xal).size (own_ext HRW.out xal) (Nat.le_refl _)
          have hT6 := own_far' (own_grown (own_ext HTT.out xal) hg6 (own_apart (own_ext HTT.out xal) (own_ext HRW.out xal) (by decide))) (p := ⟨g, 1, none⟩) (own_blk_ne (own_grown (own_ext HTT.out xal) hg6 (own_apart (own_ext HTT.out xal) (own_ext HRW.out xal) (by decide))) hb6 (by decide)) (.slice A6 (j + 1) c6)
          have hO6 := hb6.set_ 1 (.slice A6 (j + 1) c6)
          simp only [List.set_cons_succ, List.set_cons_zero] at hO6
          have hR6 := own_far' hown6 (p := ⟨g, 1, none⟩) (own_blk_ne hown6 hb6 (by decide)) (.slice A6 (j + 1) c6)
          have hN : LW w w3 W0.heap.size ⟨A3, min 12 f.len, c3, some12 f.l⟩ := ⟨own_base hown3 (by simp; exact hsz), HFO.out⟩
          have hL6 : ∀ y ∈ L ++ [⟨A3, min 12 f.len, c3, some12 f.l⟩], LW w (w6.setCell ⟨g, 1, none⟩ (.slice A6 (j + 1) c6)) W0.heap.size y := by
            intro y hy
            have : LW w (w3.alloc (.cells #[.slice A3 (min 12 f.len) c3] 48)) W0.heap.size y := by
              rcases List.mem_append.1 hy with hy | hy
              · exact (HLWW.out y hy).ext xal
              · simp only [List.mem_singleton] at hy; subst hy; exact hN.ext ((Ext.refl w3).alloc _)
            exact (this.grown (own_ext HRW.out xal) hg6).far hb6 _
          have xr7 : Ext W0 (w6.setCell ⟨g, 1, none⟩ (.slice A6 (j + 1) c6)) := xr6.setCell (p := ⟨g, 1, none⟩) hgl _
          clear hown6 hg6 hat6 hb6 e6 z6 o3 o3' xal xr6 hN
          go_wp2_with fail
          go_roundw
          case rel => exact ⟨j + 1, val_int (by omega), by omega, by omega, ⟨_, _, by rw [Hsn.out, List.map_append, List.map_append, HHL.out]; rfl, hL6, own_to hR6 (Nat.le_refl _) rfl (by rw [thingsOf_append]; rfl), hO6⟩, hT6, xr7⟩
          case measure => simp [intOf]; omega
      · have hj20e : j = 20 := by omega
        have hj0 : (j : Int) < n2 := by omega
        have hj1 : ¬ (j : Int) < 20 := by omega
        obtain ⟨Ar, cr, rfl, _⟩ := own_form hrow
        have hcap := own_bounds hrow
        have hZ := HZ0.out.ext hx
        have z0 := hZ.cell 0
        have z1 := hZ.cell 1
        have q0 := hZ.frozen 0
        have q1 := hZ.frozen 1
        have o0 := hO.cell 0
        have o1 := hO.cell 1
        simp only [List.getElem?_cons_zero, List.getElem?_cons_succ] at z0 z1 o0 o1
        have hlt := HX0.out.size
        have hltz : w.heap.size + 1 < W0.heap.size := HZ0.out.lt
        have xw : Ext w wr := HX0.out.trans hx
        have hLO : ∀ y ∈ L, LW w wr W0.heap.size y := hLW
        have HFM : Hid (L.map WV.l = ((more.map WV.l).take 20).map some12) := Lib.hid (by rw [hL, hj20e])
        have hLl : L.length = j := by have := hrow.1; rw [thingsOf_len] at this; omega
        have HEND : Hid (∃ y : XV, (Value.agg #[.slice Av (min 12 n1) cv, .slice Ar j cr] : Value) = y.val ∧ OwnY w ((wr.setCell ⟨w.heap.size + 1, 0, none⟩ (.slice Av (min 12 n1) cv)).setCell ⟨w.heap.size + 1, 1, none⟩ (.slice Ar j cr)) w.heap.size y ∧ y.top = some12 top ∧ y.more = ((more.map WV.l).take 20).map some12 ∧ y.Few ∧ Ext w ((wr.setCell ⟨w.heap.size + 1, 0, none⟩ (.slice Av (min 12 n1) cv)).setCell ⟨w.heap.size + 1, 1, none⟩ (.slice Ar j cr))) := Lib.hid (own_end hT hrow hLO xw hltz (some12_ok t1.ok) HFM.out hLl hj20 (by rw [some12_len]; omega))
        clear hj20e h20 hjn hrow hT hO hL hLW hLO HFM hZ
        go_wp2_with fail
        obtain ⟨y, hy, h1, h2, h3, h4, h5⟩ := HEND.out
        exact bodyPost_ret (v := .agg #[.slice Av (min 12 n1) cv, .slice Ar j cr]) (by simp [results, Try.results36, go_sem, z0, z1]) rfl ⟨y, congrArg Ending.returned hy, h1, h2, (by unfold XV.more at h3; simpa using h3), h4, h5⟩
    · obtain rfl : n2 = j := by omega
      obtain ⟨Ar, cr, rfl, _⟩ := own_form hrow
      have hcap := own_bounds hrow
      have hZ := HZ0.out.ext hx
      have z0 := hZ.cell 0
      have z1 := hZ.cell 1
      have q0 := hZ.frozen 0
      have q1 := hZ.frozen 1
      have o0 := hO.cell 0
      have o1 := hO.cell 1
      simp only [List.getElem?_cons_zero, List.getElem?_cons_succ] at z0 z1 o0 o1
      have hlt := HX0.out.size
      have hltz : w.heap.size + 1 < W0.heap.size := HZ0.out.lt
      have xw : Ext w wr := HX0.out.trans hx
      have hLO : ∀ y ∈ L, LW w wr W0.heap.size y := hLW
      have HFM : Hid (L.map WV.l = ((more.map WV.l).take 20).map some12) := Lib.hid (by rw [hL, List.take_of_length_le (by simp; omega), List.take_of_length_le (by simp; omega)])
      have hLl : L.length = n2 := by have := hrow.1; rw [thingsOf_len] at this; omega
      have HEND : Hid (∃ y : XV, (Value.agg #[.slice Av (min 12 n1) cv, .slice Ar n2 cr] : Value) = y.val ∧ OwnY w ((wr.setCell ⟨w.heap.size + 1, 0, none⟩ (.slice Av (min 12 n1) cv)).setCell ⟨w.heap.size + 1, 1, none⟩ (.slice Ar n2 cr)) w.heap.size y ∧ y.top = some12 top ∧ y.more = ((more.map WV.l).take 20).map some12 ∧ y.Few ∧ Ext w ((wr.setCell ⟨w.heap.size + 1, 0, none⟩ (.slice Av (min 12 n1) cv)).setCell ⟨w.heap.size + 1, 1, none⟩ (.slice Ar n2 cr))) := Lib.hid (own_end hT hrow hLO xw hltz (some12_ok t1.ok) HFM.out hLl (by omega) (by rw [some12_len]; omega))
      clear hrow hT hO hL hLW hLO HFM hZ
      go_wp2_with fail
      obtain ⟨y, hy, h1, h2, h3, h4, h5⟩ := HEND.out
      exact bodyPost_ret (v := .agg #[.slice Av (min 12 n1) cv, .slice Ar n2 cr]) (by simp [results, Try.results36, go_sem, z0, z1]) rfl ⟨y, congrArg Ending.returned hy, h1, h2, h3, h4, h5⟩

set_option maxRecDepth 100000 in
theorem law10_short (A : Option Addr) (n c : Nat) (w : World) (hnc : n ≤ c) (hc : c ≤ maxLen) : Calls Try.prog 41 #[.slice A n c] w fun e w' => e = .returned (.slice A (min n 17000) c) ∧ w = w' := by
  have h63 : n ≤ 9223372036854775807 := by unfold maxLen at hc; omega
  clear hc
  go_enter Try.func41, Try.ntmps41
  by_cases h : 17000 < n
  · have e : min n 17000 = 17000 := by omega
    rw [e]
    go_wp2
    go_ret
    exact ⟨rfl, rfl⟩
  · have e : min n 17000 = n := by omega
    rw [e]
    go_wp2
    go_ret
    exact ⟨rfl, rfl⟩

/-! the document's example -/
def noneX : XV := ⟨none, 0, 0, [], none, 0, 0, []⟩
theorem noneX_ok (w : World) : noneX.Ok w := ⟨Fs.nil_ _ _, Nat.le_refl _, Nat.zero_le _, Ts.nil_ _ _ (by omega), Nat.le_refl _, Nat.zero_le _⟩
theorem noneX_few : noneX.Few := ⟨Nat.zero_le _, Nat.zero_le _, by unfold noneX; simp⟩
theorem fresh_may : kmay freshK 1 = 0 := by decide
theorem fresh_put : kput 1 freshK [] [] = ([8, 1, 16, 1], 0) := by
  rw [kput_nil fresh_may]
  have e : stF 1 freshK [] [] = [tfv 1 0 1 [], tfv 2 0 1 []] := by
    simp [stF, freshK, numF, snpsF, recF]
  rw [e]
  simp [rput, fbytes, fput, tfv, vput_small]
set_option maxRecDepth 100000 in
theorem law10_shown (w : World) : Calls Try.prog 33 #[] w fun e w' => e = .returned (.bool true) ∧ Ext w w' := by
  have HP := Lib.hid (fun W => image_Put freshK noneX 1 W (freshK_ok W) (noneX_ok W) freshK_few noneX_few)
  unfold PutPost at HP
  rw [show kput 1 freshK noneX.more noneX.top = ([8, 1, 16, 1], 0) from fresh_put] at HP
  unfold KV.val XV.val freshK noneX at HP
  dsimp only at HP
  have HFR := Lib.hid (fun W => ref07_Fresh W)
  unfold KV.val freshK at HFR
  dsimp only at HFR
  go_enter Try.func33, Try.ntmps33
  go_wp2_with fail
  refine (HFR.out _).mono ?_
  rintro e w1 ⟨rfl, x1⟩
  go_wp2_with fail
  refine (HP.out _).mono ?_
  rintro e w2 ⟨v, rfl, hown, x2⟩
  have hx := x1.trans x2
  obtain ⟨A, c, rfl, _⟩ := own_form hown
  have hs1 := str_at (show Bs w2 A 4 [8, 1, 16, 1] from Bs.of_own hown) c
  have hs2 := str_at (bs_lit w2 #[.int .u8 8, .int .u8 1, .int .u8 16, .int .u8 1] [8, 1, 16, 1] 4 rfl rfl) 4
  clear hown HP HFR
  go_wp2
  go_ret
  exact ⟨rfl, hx.alloc _⟩
end Go.Proofs.Ytiildgoaiookhaa

/- The walks of numbers, bytes, Of, wrong of coracleref10, and of coracleref05.Chunks. -/
namespace Go.Proofs.Ytiildgoaiookhaa
open Go.RowKit

theorem grown_alloc {w w' : World} {o : Obj} {row : Option Nat} (h : (w.alloc o).grownBy w' row) : w.grownBy w' row := World.grownBy.trans (grownBy_ext ((Ext.refl w).alloc o) row) h
theorem U64.of62 {m : Nat} (h : (m : Int) ≤ 4611686018427387904) : U64 m := by unfold U64; omega
set_option maxRecDepth 100000 in
set_option maxHeartbeats 800000 in
theorem ref10_numbers (A : Option Addr) (n c : Nat) (l : List Int) (w : World) (h : Is w A n l) (hn : n ≤ 1000) (h0 : ∀ x ∈ l, 0 ≤ x ∧ x ≤ 4611686018427387904) :
    Calls Try.prog 76 #[.slice A n c] w fun e w' => ∃ v, e = .returned v ∧ w'.ownsRow w.heap.size 96 4 v (numF 1 l).length (rowOf (numF 1 l)) ∧ Ext w w' := by
  have hlen := h.len
  have hE := own_empty w 96 4
  go_enter Try.func76, Try.ntmps76
  go_wp2_with fail
  go_loopw [3, 4] (fun v i wr => ∃ j : Nat, i = .int .i64 j ∧ j ≤ n ∧ wr.ownsRow w.heap.size 96 4 v (numF 1 (l.take j)).length (rowOf (numF 1 (l.take j))) ∧ Ext w wr) (fun _ i _ => n - (intOf i).toNat)
  case atStart => exact ⟨0, rfl, by omega, hE, (Ext.refl w).alloc _⟩
  case round =>
    clear hE
    obtain ⟨j, rfl, hj, hown, hx⟩ := hrel
    obtain ⟨v3, rfl⟩ : ∃ v3 : Value, v3 = u3 := ⟨_, rfl⟩
    by_cases hjn : j < n
    · have hjl : j < l.length := by omega
      obtain ⟨b, off, rfl, hc⟩ := (h.ext hx).at_ hjn
      have hb := h0 l[j] (List.getElem_mem _)
      have Hsn := Lib.hid (numF_take l j hjl)
      have hnl := numF_len (l.take j) 1
      have htl : (l.take j).length ≤ 1000 := by rw [List.length_take]; omega
      have hj0 : (0 : Int) ≤ j := by omega
      have hj1 : (j : Int) < n := by omega
      generalize l[j] = x at *
      obtain ⟨m, rfl⟩ : ∃ m : Nat, x = m := ⟨x.toNat, by omega⟩
      by_cases hz : m = 0
      · subst hz
        have hb0 := bne_f (show (((0 : Nat) : Int)) = 0 from rfl)
        have HO := Lib.hid hown
        clear hown
        go_wp2_with fail
        go_roundw
        case rel => exact ⟨j + 1, val_int (by omega), by omega, own_to HO.out (Nat.le_refl _) (by rw [Hsn.out]; simp) (by rw [Hsn.out]; simp), hx⟩
        case measure => simp [intOf]; omega
      · have hb0 := bne_t (show ((m : Nat) : Int) ≠ 0 by omega)
        have hwr : IntKind.u64.wrap (m : Int) = m := (U64.of62 hb.2).wrap
        have Hz := Lib.hid hz
        have hszw := hx.size
        clear hz hb
        go_wp2_with (at_builtin; refine wpList_app fieldsT (by omega) _ rfl rfl rfl (hown.alloc _) rfl (rd_at4 _ (.int .i64 ((j : Int) + 1)) (.int .i64 0) (.int .u64 m) (.slice none 0 0) _ _ (by simp)) (fcells_one _ _ _ _ _ _) (by unfold maxLen; omega) (by omega) (by simp; omega) ?_; intro v1 w1 hown1 hg1 hat1)
        have x1 := Below.app (hx.alloc _) hg1 (by simp; omega) (hown.alloc _) (Nat.le_refl _)
        go_roundw
        case rel => exact ⟨j + 1, val_int (by omega), by omega, own_to hown1 (Nat.le_refl _) (by rw [Hsn.out, if_neg (by have := Hz.out; omega)]; simp) (by rw [Hsn.out, if_neg (by have := Hz.out; omega), rowOf_append, rowOf_one]; simp [FV.cells, tfv]), x1⟩
        case measure => simp [intOf]; omega
    · obtain rfl : n = j := by omega
      have HO := Lib.hid (own_to (ys := rowOf (numF 1 l)) (n' := (numF 1 l).length) hown (Nat.le_refl _) (by rw [List.take_of_length_le (by omega)]) (by rw [List.take_of_length_le (by omega)]))
      clear hown
      go_wp2_with fail
      go_ret
      exact ⟨_, rfl, HO.out, hx⟩

/-- a field of bytes, if there are some -/
def optB (num : Nat) (bs : List UInt8) : List FV := if bs = [] then [] else [tfv num 2 0 bs]
/-- what bytes leaves -/
def BytesPost (num : Nat) (bs : List UInt8) (v : Value) (S : List FV) (B : Nat) (w : World) (e : Ending) (w' : World) : Prop :=
  ∃ v' d', e = .returned v' ∧ RowL w' B v' d' ∧ d'.map FV.s = (S ++ optB num bs).map FV.s ∧ w.grownBy w' v.ownBlock ∧ Below B w w'
set_option maxRecDepth 100000 in
set_option maxHeartbeats 800000 in
theorem ref10_bytes (v : Value) (d S : List FV) (num' : Int) (num : Nat) (hk : num' = num) (A : Option Addr) (n c : Nat) (bs : List UInt8) (w : World) (B : Nat) (hR : RowL w B v d) (hdS : d.map FV.s = S.map FV.s) (hB : B ≤ w.heap.size) (hd : d.length ≤ 20000) (hf : LieF w ⟨num, 2, 0, A, n, c, bs⟩) :
    Calls Try.prog 78 #[v, .int .i64 num', .slice A n c] w (BytesPost num bs v S B w) := by
  subst hk
  have HE : Hid (∀ (W : World) (e : Ending), BytesPost num bs v S B w e W ↔ ∃ v' d', e = .returned v' ∧ RowL W B v' d' ∧ d'.map FV.s = (S ++ optB num bs).map FV.s ∧ w.grownBy W v.ownBlock ∧ Below B w W) := Lib.hid fun _ _ => Iff.rfl
  have hbl := hf.ok.bs.len
  dsimp only at hbl
  have hrow := hR.row
  have HR := Lib.hid hR
  have HS := Lib.hid hdS
  have HF := Lib.hid hf
  clear hR hf hdS
  by_cases h0 : n = 0
  · have he : optB num bs = [] := by unfold optB; rw [if_pos (List.eq_nil_of_length_eq_zero (by omega))]
    have HO := Lib.hid he
    subst h0
    clear he hbl
    obtain ⟨Av, cv, rfl, _⟩ := own_form hrow
    clear hrow
    go_enter Try.func78, Try.ntmps78
    go_wp2_with fail
    go_ret
    exact (HE.out _ _).2 ⟨_, d, rfl, HR.out, by rw [HO.out, List.append_nil]; exact HS.out, World.grownBy.refl _ _, Below.refl _ _⟩
  · have he : optB num bs = [tfv num 2 0 bs] := by unfold optB; rw [if_neg (by intro e; rw [e] at hbl; simp at hbl; omega)]
    have HO := Lib.hid he
    have HL := Lib.hid hbl
    have hb0 := beq_f (show ((n : Nat) : Int) ≠ 0 by omega)
    clear he hbl h0
    go_enter Try.func78, Try.ntmps78
    go_wp2_with (at_builtin; refine wpList_app fieldsT (by omega) _ rfl rfl rfl (hrow.alloc _) rfl (rd_at4 _ (.int .i64 num) (.int .i64 2) (.int .u64 0) (.slice A n c) _ _ (by simp)) (fcells_one num 2 0 A n c) (by unfold maxLen; omega) (by omega) (by simp; omega) ?_; intro v1 w1 hown1 hg1 hat1)
    have x1 := Below.app (Below.alloc (Below.refl B w) hB _) hg1 (by simp; omega) (hrow.alloc _) (Nat.le_refl _)
    have xa := (Ext.refl w).alloc (.cells #[.int .i64 num, .int .i64 2, .int .u64 0, .slice A n c] 96)
    have hR1 := (HR.out.ext xa).app (f := ⟨num, 2, 0, A, n, c, bs⟩) (HF.out.ext xa) hg1 hown1
    go_wp2_with fail
    go_ret
    refine (HE.out _ _).2 ⟨_, _, rfl, hR1, ?_, grown_alloc hg1, x1⟩
    rw [HO.out, List.map_append, List.map_append, HS.out]
    simp only [List.map_cons, List.map_nil, FV.s, tfv, HL.out]
    rfl

set_option maxRecDepth 100000 in
set_option maxHeartbeats 800000 in
theorem ref10_wrong (kind ver : Int) (A : Option Addr) (n c : Nat) (l : List FV) (b : Bool) (hb : lowK (topL (specL kind ver)) l = b) (w : World) (hf : Fs w A n l) (hn : n ≤ 1000000) :
    Calls Try.prog 75 #[.slice A n c, .int .i64 kind, .int .i64 ver] w fun e w' => e = .returned (.bool b) ∧ Ext w w' := by
  have hlen := hf.len
  have CT := Lib.hid (fun w => ref04_Top kind ver w)
  generalize topL (specL kind ver) = K at *
  have HB := Lib.hid hb
  clear hb
  go_enter Try.func75, Try.ntmps75
  go_wp2_with fail
  go_loopw [7] (fun i wr => ∃ j : Nat, i = .int .i64 j ∧ j ≤ n ∧ Hid (lowK K (l.take j) = false) ∧ Ext w wr) (fun i _ => n - (intOf i).toNat)
  case atStart => exact ⟨0, rfl, by omega, Lib.hid rfl, Ext.refl w⟩
  case round =>
    obtain ⟨j, rfl, hj, HJ, hxr⟩ := hrel
    by_cases hjn : j < n
    · have hjl : j < l.length := by omega
      obtain ⟨bb, off, rfl, hc0, hc1, hc2, hc3⟩ := (hf.ext hxr).at_ hjn
      have Hsn := Lib.hid (lowK_snoc K l j hjl)
      have Hin : Hid (l[j] ∈ l) := Lib.hid (List.getElem_mem _)
      generalize l[j] = f at *
      have hj0 : (0 : Int) ≤ j := by omega
      have hj1 : (j : Int) < n := by omega
      by_cases h10 : f.num ≤ K
      · have hbt : b = true := by
          rw [← HB.out]
          unfold lowK
          rw [List.any_eq_true]
          exact ⟨f, Hin.out, by simpa using h10⟩
        subst hbt
        go_upto_region 4 with fail
        go_region_held3 (fun w' => w'.cell? ⟨bb, off + j * 4, none⟩ = some (.int .i64 f.num))
          (first | go_keep | (exact y1.cell hc0))
          (first | (go_at_call 99; refine (CT.out _).mono ?_; rintro e w2 ⟨rfl, y1⟩))
        go_wp2_with fail
        go_ret
        exact ⟨rfl, (hxr.drew).trans y1⟩
      · have h10' : (K : Int) < f.num := by omega
        have H10 := Lib.hid h10
        clear h10
        go_upto_region 4 with fail
        go_region_held3 (fun w' => w'.cell? ⟨bb, off + j * 4, none⟩ = some (.int .i64 f.num))
          (first | go_keep | (exact y1.cell hc0))
          (first | (go_at_call 99; refine (CT.out _).mono ?_; rintro e w2 ⟨rfl, y1⟩))
        go_wp2_with fail
        go_roundw
        case rel => exact ⟨j + 1, val_int (by omega), by omega, Lib.hid (by rw [Hsn.out, HJ.out]; simpa using H10.out), (hxr.drew).trans y1⟩
        case measure => simp [intOf]; omega
    · obtain rfl : n = j := by omega
      have hbf : b = false := by
        have e := HJ.out
        rw [List.take_of_length_le (by omega), HB.out] at e
        exact e
      subst hbf
      go_wp2_with fail
      go_ret
      exact ⟨rfl, hxr⟩

/-- what Of leaves -/
def OfPost (x : XV) (i : Nat) (w : World) (e : Ending) (w' : World) : Prop := ∃ A n c, e = .returned (.slice A n c) ∧ Fs w A n (ofM x.more i) ∧ n ≤ 18000 ∧ Ext w w'
set_option maxRecDepth 100000 in
set_option maxHeartbeats 800000 in
theorem ref10_Of (x : XV) (i : Nat) (w : World) (hx : x.Ok w) (hf : x.Few) :
    Calls Try.prog 80 #[x.val, .int .i64 i] w (OfPost x i w) := by
  have ht2 := hx.t2
  have hl2 := hx.t2.len
  have f2 := hf.n2
  have fl := hf.ln
  clear hx hf
  have HE : Hid (∀ (W : World) (e : Ending), OfPost x i w e W ↔ ∃ A n c, e = .returned (.slice A n c) ∧ Fs w A n (ofM x.more i) ∧ n ≤ 18000 ∧ Ext w W) := Lib.hid fun _ _ => Iff.rfl
  generalize OfPost x i w = POST at *
  unfold XV.more at HE
  unfold XV.val
  obtain ⟨A1, n1, c1, top, A2, n2, c2, more⟩ := x
  dsimp only at *
  have hi0 : (0 : Int) ≤ i := by omega
  go_enter Try.func80, Try.ntmps80
  by_cases hi : i < n2
  · have hil : i < more.length := by omega
    obtain ⟨bb, off, rfl, hc⟩ := Wss.cell ht2 hi hil
    have hok := ht2.ok more[i] (List.getElem_mem _)
    have hln := fl more[i] (List.getElem_mem _)
    have HF : Hid (Fs w more[i].A more[i].len (ofM (more.map WV.l) i)) := Lib.hid (by
      unfold ofM
      rw [List.getElem?_map, List.getElem?_eq_getElem hil]
      exact hok.fs)
    generalize more[i] = f at *
    have hi1 : (i : Int) < n2 := by omega
    have hc' : (w.alloc (.cells #[.slice A1 n1 c1, .slice (some ⟨bb, off, none⟩) n2 c2] 51)).cell? ⟨bb, off + i, none⟩ = some (.slice f.A f.len f.cap) := Ext.cell ((Ext.refl w).alloc _) hc
    clear hok fl hc ht2 hl2 hil hi
    go_wp2_with fail
    exact (HE.out _ _).2 ⟨_, _, _, rfl, HF.out, hln, (Ext.refl w).alloc _⟩
  · have hi1 : ¬ (i : Int) < n2 := by omega
    have HF : Hid (ofM (more.map WV.l) i = []) := Lib.hid (by
      unfold ofM
      rw [List.getElem?_eq_none (by simp; omega)]; rfl)
    clear ht2 hl2 hi fl
    go_wp2_with fail
    exact (HE.out _ _).2 ⟨none, 0, 0, rfl, by rw [HF.out]; exact Fs.nil_ _ _, by omega, (Ext.refl w).alloc _⟩
end Go.Proofs.Ytiildgoaiookhaa

/- The walks of coracleref05.Chunks and coracleref10.snap. -/
namespace Go.Proofs.Ytiildgoaiookhaa
open Go.RowKit

set_option maxRecDepth 100000 in
set_option maxHeartbeats 800000 in
theorem ref05_Chunks_no (A : Option Addr) (n c : Nat) (l : List Int) (w : World) (h : Is w A n l) (hn : n ≤ 1000000) (hr : rowChB l = false) :
    Calls Try.prog 102 #[.slice A n c] w fun e w' => e = .returned (.tuple #[.slice none 0 0, .int .i64 1]) ∧ Ext w w' := by
  have H := ref05_Row A n c l w h hn
  rw [hr] at H
  have HR := Lib.hid H
  clear H hr
  go_enter Try.func102, Try.ntmps102
  go_wp2_with fail
  refine HR.out.mono ?_
  rintro e w1 ⟨rfl, x1⟩
  go_wp2
  go_ret2
  exact ⟨rfl, x1⟩
set_option maxRecDepth 100000 in
set_option maxHeartbeats 800000 in
theorem ref05_Chunks_ok (A : Option Addr) (n c : Nat) (l : List Int) (w : World) (h : Is w A n l) (hr : rowChB l = true) :
    Calls Try.prog 102 #[.slice A n c] w fun e w' => ∃ v, e = .returned (.tuple #[v, .int .i64 0]) ∧ w'.ownsRow w.heap.size 5 1 v (chput l).length ((chput l).map bv) ∧ Ext w w' := by
  have hlen := h.len
  have hr2 := hr
  unfold rowChB at hr2
  simp only [Bool.and_eq_true, decide_eq_true_eq] at hr2
  have hup := upB_in hr2.2
  have hn8 : n ≤ 8 := by omega
  have H := ref05_Row A n c l w h (by omega)
  rw [hr] at H
  have HR := Lib.hid H
  have Hup := Lib.hid hup
  clear H hr hr2 hup
  go_enter Try.func102, Try.ntmps102
  go_wp2_with fail
  refine HR.out.mono ?_
  rintro e w1 ⟨rfl, x1⟩
  have h0 := own_base (own_empty w1 5 1) x1.size
  have h1 := h.ext x1
  go_wp2_with fail
  go_loopw [4, 5] (fun v i wr => ∃ j : Nat, i = .int .i64 j ∧ j ≤ n ∧ wr.ownsRow w.heap.size 5 1 v (chput (l.take j)).length ((chput (l.take j)).map bv) ∧ Ext w wr) (fun _ i _ => n - (intOf i).toNat)
  case atStart => exact ⟨0, rfl, by omega, by simpa [chput] using h0, x1.alloc _⟩
  case round =>
    clear h0 x1 h1
    obtain ⟨j, rfl, hj, hown, hx⟩ := hrel
    by_cases hjn : j < n
    · have hjl : j < l.length := by omega
      obtain ⟨bb, off, rfl, hc⟩ := (h.ext hx).at_ hjn
      have hxb := Hup.out l[j] (List.getElem_mem _)
      have hsn := chput_snoc l j hjl
      have hle : (chput (l.take j)).length ≤ (l.take j).length * 10 := chput_le (fun x hx => (Hup.out x (List.mem_of_mem_take hx)).2)
      have hle2 : (l.take j).length ≤ j := List.length_take_le _ _
      obtain ⟨x, hx0⟩ := Int.eq_ofNat_of_zero_le (show 0 ≤ l[j] by omega)
      rw [hx0] at hc hsn hxb
      have hU : U64 x := by unfold U64; omega
      have hQ : (vput x).length ≤ 10 := by rw [vput_len]; exact hU.size
      have HP := Lib.hid (ref01_Put x hU wr)
      rw [Int.toNat_natCast] at hsn
      generalize chput (l.take j) = R at *
      generalize vput x = V at *
      have Hsn := Lib.hid hsn
      have hsz := hx.size
      have hwx : IntKind.u64.wrap (x : Int) = x := hU.wrap
      clear hsn hx0
      go_wp2_with fail
      refine HP.out.mono ?_
      rintro e w2 ⟨v2, rfl, hown2, y2⟩
      obtain ⟨A2, k2, rfl, _⟩ := own_form hown2
      have b2 := Rd.of_own hown2
      have hown' := own_ext hown y2
      have hz2 := y2.size
      go_wp2_with (at_builtin; refine wpList_app bytesT (by omega) _ rfl rfl rfl hown' rfl b2 (bvs_one _) (by unfold maxLen; omega) (by omega) (by omega) ?_; intro v3 w3 hown3 hg3 hat3)
      go_roundw
      case rel => exact ⟨j + 1, val_int (by omega), by omega, own_to hown3 (Nat.le_refl _) (by rw [Hsn.out, List.length_append]) (by rw [Hsn.out, List.map_append]), Below.app (hx.trans y2) hg3 (by omega) hown' (Nat.le_refl _)⟩
      case measure => simp [intOf]; omega
    · obtain rfl : n = j := by omega
      rw [List.take_of_length_le (by omega)] at hown
      go_wp2
      go_ret2
      exact ⟨_, rfl, hown, hx⟩

theorem tag_opt (ver : Int) (f : NV) : tagF ver f = if 3 ≤ ver then optB 5 f.tag.data.toList else [] := by
  unfold tagF optB
  by_cases h : 3 ≤ ver
  · rw [if_pos h]
    by_cases ht : f.tag = ⟨#[]⟩
    · rw [if_neg (fun k => k.2 ht), ht]; rfl
    · rw [if_pos ⟨h, ht⟩, if_neg]
      intro e
      have h2 : f.tag = ⟨f.tag.data.toList.toArray⟩ := by simp
      exact ht (by rw [h2, e])
  · rw [if_neg h, if_neg (fun k => h k.1)]
theorem optB_len (num : Nat) (bs : List UInt8) : (optB num bs).length ≤ 1 := by unfold optB; split <;> simp
theorem optB_ne {num : Nat} {bs : List UInt8} (h : bs ≠ []) : optB num bs = [tfv num 2 0 bs] := by unfold optB; rw [if_neg h]
theorem s_len2 {l m : List FV} (h : l.map FV.s = m.map FV.s) : l.length = m.length := by have := congrArg List.length h; simpa using this
set_option maxRecDepth 100000 in
set_option maxHeartbeats 3200000 in
theorem ref10_snap (f : NV) (ver : Int) (A : Option Addr) (m c : Nat) (rest : List FV) (w : World) (hf : f.Ok w) (hr : rowChB f.ch = true) (hid : ∀ n ∈ [f.id, f.set], 0 ≤ n ∧ n ≤ 4611686018427387904) (ht : f.tag.size ≤ 16) (hrest : Fs w A m rest) (hm : m ≤ 18000) :
    Calls Try.prog 79 #[.agg #[.int .i64 f.id, .int .i64 f.set, .slice f.A f.len f.cap, .bool f.held, .string f.tag], .slice A m c, .int .i64 ver] w (SnapPost ver f rest m w) := by
  have HE : Hid (∀ (W : World) (e : Ending), SnapPost ver f rest m w e W ↔ ∃ (A : Option Addr) (n c : Nat) (D : List FV), e = .returned (.slice A n c) ∧ Fs W A n D ∧ D.map FV.s = (snpF ver f rest).map FV.s ∧ n ≤ m + 5 ∧ Ext w W) := Lib.hid fun _ _ => Iff.rfl
  have HPART := Lib.hid (snpF_parts ver f rest)
  have HHELD : Hid (heldF ver f = if 2 ≤ ver ∧ f.held = true then [tfv 4 0 1 []] else []) := Lib.hid rfl
  have HTAG := Lib.hid (tag_opt ver f)
  have HNE := Lib.hid (chput_ne hr)
  generalize heldF ver f = H4 at *
  generalize tagF ver f = H5 at *
  generalize SnapPost ver f rest m w = POST at *
  generalize snpF ver f rest = SN at *
  have hcs := hf.cs
  have HST := Lib.hid (str_bytes f.tag hf.ut)
  obtain ⟨id, set, fA, flen, fcap, ch, held, tag⟩ := f
  dsimp only at *
  have hB0 := Blk.new w 33 [.int .i64 id, .int .i64 set, .slice fA flen fcap, .bool held, .string tag]
  have x0 : Ext w (w.alloc (.cells #[.int .i64 id, .int .i64 set, .slice fA flen fcap, .bool held, .string tag] 33)) := (Ext.refl w).alloc _
  have HID := Lib.hid hid
  have HR := Lib.hid hr
  clear hf hid hr
  go_enter Try.func79, Try.ntmps79
  go_upto_region 1 with fail
  generalize hg : w.heap.size = g at hB0 ⊢
  generalize w.alloc (.cells #[.int .i64 id, .int .i64 set, .slice fA flen fcap, .bool held, .string tag] 33) = W0 at *
  clear hg
  have q0 := hB0.cell 0
  have q1 := hB0.cell 1
  simp only [List.getElem?_cons_zero, List.getElem?_cons_succ] at q0 q1
  go_wp2_with fail
  refine (ref10_numbers _ _ _ [id, set] _ (is_lit W0 [id, set] _ _ 2 _ rfl rfl (by simp)) (by omega) HID.out).mono ?_
  rintro e w1 ⟨v1, rfl, hown1, x1⟩
  have y1 := ((Ext.refl W0).alloc (.cells #[.int .i64 id, .int .i64 set] 3)).trans x1
  have HD1 := Lib.hid (numF_rowL (own_base (base' := W0.heap.size) hown1 (by simp)) HID.out)
  have HD2 : Hid ((numF 1 [id, set]).length ≤ 2) := Lib.hid (numF_len [id, set] 1)
  generalize numF 1 [id, set] = d1 at *
  have q2 := (hB0.ext y1).cell 2
  simp only [List.getElem?_cons_zero, List.getElem?_cons_succ] at q2
  clear q0 q1 hown1 x1
  have HCK := Lib.hid (ref05_Chunks_ok fA flen fcap ch w1 (hcs.ext (x0.trans y1)) HR.out)
  go_wp2_with fail
  refine HCK.out.mono ?_
  rintro e w2 ⟨v2, rfl, hown2, x2⟩
  obtain ⟨A2, c2, rfl, _⟩ := own_form hown2
  have y2 := y1.trans x2
  have HF2 : Hid (LieF w2 ⟨3, 2, 0, A2, (chput ch).length, c2, chput ch⟩) := Lib.hid (LieF.of_own (B := w1.heap.size) ⟨hown2, show (0 : Nat) < 18446744073709551616 by decide⟩)
  have HD3 := Lib.hid (HD1.out.ext x2)
  generalize chput ch = bs at *
  clear HCK hown2 x2 HD1 q2 y1 hcs
  have HBY := Lib.hid (ref10_bytes v1 d1 d1 3 3 rfl A2 bs.length c2 bs w2 W0.heap.size HD3.out rfl y2.size (by have := HD2.out; omega) HF2.out)
  unfold BytesPost at HBY
  rw [optB_ne HNE.out] at HBY
  go_wp2_with fail
  refine HBY.out.mono ?_
  rintro e w4 ⟨v4, D5, rfl, hD5, hS5, hg4, b4⟩
  have y4 : Ext W0 w4 := Below.trans y2 b4
  have HD5 := Lib.hid hD5
  have HS5 := Lib.hid hS5
  have HL5 : Hid (D5.length ≤ 3) := Lib.hid (by have := s_len2 hS5; rw [List.length_append] at this; have := HD2.out; simp at *; omega)
  generalize d1 ++ [tfv 3 2 0 bs] = P5 at *
  have q3 := (hB0.ext y4).cell 3
  simp only [List.getElem?_cons_zero, List.getElem?_cons_succ] at q3
  clear HBY HF2 HD3 HD2 hg4 b4 y2 hD5 hS5 HNE
  go_upto_region 4 with (fail)
  go_cut [30] (fun s wx => s = .bool (decide (2 ≤ ver) && held) ∧ w4 = wx)
  case first =>
    by_cases hv : 2 ≤ ver
    · have hv' := dec_t hv
      go_wp2_with fail
      go_meet
      exact ⟨by rw [hv']; rfl, rfl⟩
    · have hv' := dec_f hv
      go_wp2_with fail
      go_meet
      exact ⟨by rw [hv']; rfl, rfl⟩
  case rest =>
    obtain ⟨rfl, rfl⟩ := hcut
    have HB4 : Hid (H4 = if (decide (2 ≤ ver) && held) = true then [tfv 4 0 1 []] else []) := Lib.hid (by rw [HHELD.out]; simp only [Bool.and_eq_true, decide_eq_true_eq])
    generalize (decide (2 ≤ ver) && held) = b4 at *
    clear HHELD q3
    go_upto_if 30 with (fail)
    go_cut [7] (fun s7 wx => ∃ D : List FV, D.map FV.s = (P5 ++ H4).map FV.s ∧ D.length ≤ 4 ∧ RowL wx W0.heap.size s7 D ∧ Ext W0 wx)
    case first =>
      clear HE HPART HTAG HST HR HID
      rcases b4 with _ | _
      · go_wp2_with fail
        go_meet
        exact ⟨D5, by rw [HB4.out, List.map_append, HS5.out]; simp, by have := HL5.out; omega, HD5.out, y4⟩
      · have hrow5 := HD5.out.row
        have hd5 := HL5.out
        have hs5 := y4.size
        go_wp2_with (at_builtin; refine wpList_app fieldsT (by omega) _ rfl rfl rfl (hrow5.alloc _) rfl (rd_at4 _ (.int .i64 4) (.int .i64 0) (.int .u64 1) (.slice none 0 0) _ _ (by simp)) (fcells_one 4 0 1 none 0 0) (by unfold maxLen; omega) (by omega) (by simp; omega) ?_; intro v6 w6 hown6 hg6 hat6)
        go_meet
        refine ⟨D5 ++ [⟨4, 0, 1, none, 0, 0, []⟩], ?_, by simp; omega, RowL.app (f := ⟨4, 0, 1, none, 0, 0, []⟩) (HD5.out.ext ((Ext.refl w4).alloc _)) ((LieF.none_ w4 4 0 1 (by unfold U64; omega)).ext ((Ext.refl w4).alloc (.cells #[.int .i64 4, .int .i64 0, .int .u64 1, .slice none 0 0] 96))) hg6 hown6, Below.app (y4.alloc _) hg6 (by simp; omega) (hrow5.alloc _) (Nat.le_refl _)⟩
        rw [HB4.out, List.map_append, HS5.out, if_pos trivial, List.map_append]; rfl
    case rest =>
      obtain ⟨D6, hs6, hl6, hD6, y6⟩ := hcut
      have HD6 := Lib.hid hD6
      have HS6 := Lib.hid hs6
      clear hD6 hs6 y4 HD5 HS5 HL5 HB4
      rename World => w6
      have q4 := (hB0.ext y6).cell 4
      simp only [List.getElem?_cons_zero, List.getElem?_cons_succ] at q4
      go_upto_if 36 with (fail)
      go_cut [7] (fun s7 wx => ∃ D : List FV, D.map FV.s = (P5 ++ H4 ++ H5).map FV.s ∧ D.length ≤ 5 ∧ RowL wx W0.heap.size s7 D ∧ Ext W0 wx)
      case first =>
        clear HE HPART HR HID
        by_cases hv : 3 ≤ ver
        · have HB5 : Hid (H5 = optB 5 tag.data.toList) := Lib.hid (by rw [HTAG.out, if_pos hv])
          have hvd := dec_t hv
          obtain ⟨ct, WT, HT1, HT2, HT3, HT4, HT5⟩ := HST.out w6
          have y6t := y6.trans HT2
          have HBY := Lib.hid (ref10_bytes u7 D6 (P5 ++ H4) 5 5 rfl (some ⟨w6.heap.size, 0, none⟩) tag.size ct tag.data.toList WT W0.heap.size (HD6.out.ext HT2) HS6.out y6t.size (by omega) (HT3 5 2))
          unfold BytesPost at HBY
          have HX6 := Lib.hid y6t
          clear HT3 HST HTAG HT2 HD6 y6 y6t
          go_wp2_with fail
          refine HBY.out.mono ?_
          rintro e w7 ⟨v7, D7, rfl, hD7, hS7, hg7, b7⟩
          have hl7 := s_len2 hS7
          have hl8 := s_len2 HS6.out
          have hl9 := optB_len 5 tag.data.toList
          rw [List.length_append, ← hl8] at hl7
          go_wp2_with fail
          go_meet
          exact ⟨D7, by rw [hS7, HB5.out], by omega, hD7, Below.trans HX6.out b7⟩
        · have HB5 : Hid (H5 = []) := Lib.hid (by rw [HTAG.out, if_neg hv])
          have hvd := dec_f hv
          clear HST HTAG
          go_wp2_with fail
          go_meet
          exact ⟨D6, by rw [HB5.out, HS6.out, List.append_nil], by omega, HD6.out, y6⟩
      case rest =>
        obtain ⟨D7, hs7, hl7, hD7, y7⟩ := hcut
        have HD7 := Lib.hid hD7
        have HS7 := Lib.hid hs7
        have hrow7 := hD7.row
        have hrs := hrest.ext (x0.trans y7)
        have hrl := hrs.len
        have HX0 := Lib.hid x0
        clear hD7 hs7 y6 HD6 HS6 HTAG x0 q4
        rename World => w7
        have hsz7 := y7.size
        go_upto_region 8 with (fail)
        go_wp2_with (at_builtin; refine wpList_app fieldsT (by omega) _ rfl rfl rfl hrow7 rfl hrs.rd (rowOf_cells _) (by unfold maxLen; omega) (by omega) hsz7 ?_; intro v9 w9 hown9 hg9 hat9; obtain ⟨A9, c9, rfl, _⟩ := own_form hown9)
        have y9 : Ext W0 w9 := Below.app y7 hg9 hsz7 hrow7 (Nat.le_refl _)
        refine (HE.out _ _).2 ⟨A9, D7.length + m, c9, D7 ++ rest, rfl, Fs.of_own (own_to hown9 (Nat.le_refl _) rfl (by rw [rowOf_append])) ?_, ?_, by omega, HX0.out.trans y9⟩
        · intro f hf
          rcases List.mem_append.1 hf with hf | hf
          · exact ((HD7.out.lie f hf).grown hrow7 hg9).ok
          · exact (hrest.ok f hf).ext (HX0.out.trans y9)
        · rw [HPART.out, List.map_append, HS7.out, ← List.map_append]
end Go.Proofs.Ytiildgoaiookhaa
