/- Words and walks that the last text of this claim stands on: Im2. No condition. -/
import Derived.Test.YtiildgoaiookhaaGreatB23
import Derived.Test.YtiildgoaiookhaaGreatB20
import Derived.Test.YtiildgoaiookhaaGreatB15
/- The walk of image.Take. (Printed by wip/tools/imtake.py.) -/
namespace Go.Proofs.YtiildgoaiookhaaGreat
open Go.RowKit

/-- what was read stays, when it is stored into the results -/
theorem OwnK.farZ {w : World} {B g i : Nat} {t : KV} {e : TypeId} {l : List Value} (h : OwnK w B t) (hb : Blk w g e l) (he : bigT e = false) (h2 : 3 ≠ e) (u : Value) : OwnK (w.setCell ⟨g, i, none⟩ u) B t := by
  have n1 : 63 ≠ e := by rintro rfl; revert he; decide
  have n2 : 65 ≠ e := by rintro rfl; revert he; decide
  have n3 : 70 ≠ e := by rintro rfl; revert he; decide
  exact ⟨h.u0, h.u1, h.u2, h.u3, own_farB h.o1 hb n1 u, own_farB h.o2 hb n2 u, own_farB h.o3 hb n3 u, fun f hf => ⟨(h.k1 f hf).u0, (h.k1 f hf).u1, (h.k1 f hf).u2, (h.k1 f hf).u3⟩, fun f hf => ⟨(h.k2 f hf).u0, (h.k2 f hf).u1⟩,
    fun f hf => ⟨(h.k3 f hf).u0, (h.k3 f hf).u1, own_farB (h.k3 f hf).own hb h2 u, (h.k3 f hf).uc, (h.k3 f hf).ut⟩⟩
theorem OwnZ.farZ {w : World} {B g i : Nat} {x : XV} {e : TypeId} {l : List Value} (h : OwnZ w B x) (hb : Blk w g e l) (h1 : 5 ≠ e) (h2 : 54 ≠ e) (h3 : 30 ≠ e) (u : Value) : OwnZ (w.setCell ⟨g, i, none⟩ u) B x :=
  ⟨h.top.far hb h1 h2 u, h.n1, own_farB h.row hb h3 u, fun f hf => ⟨(h.sn f hf).1.far hb h1 h2 u, (h.sn f hf).2⟩⟩
/-- a catalogue and a rest of the call's own, beside the results' boxes -/
structure TE (w0 w : World) (s : KV) (x : XV) : Prop where
  k : OwnK w w0.heap.size s
  z : OwnZ w w0.heap.size x
  b4 : ∃ l, Blk w w0.heap.size 29 l
  b5 : ∃ l, Blk w (w0.heap.size + 1) 33 l
  ext : Ext w0 w
theorem TE.s4 {w0 w : World} {s : KV} {x : XV} (h : TE w0 w s x) (i : Nat) (u : Value) : TE w0 (w.setCell ⟨w0.heap.size, i, none⟩ u) s x := by
  obtain ⟨l4, h4⟩ := h.b4
  obtain ⟨l5, h5⟩ := h.b5
  exact ⟨h.k.farZ h4 (by decide) (by decide) u, h.z.farZ h4 (by decide) (by decide) (by decide) u, ⟨_, h4.set_ i u⟩, ⟨_, h5.far (p := ⟨w0.heap.size, i, none⟩) (by show w0.heap.size + 1 ≠ w0.heap.size; omega) u⟩, h.ext.setCell (p := ⟨w0.heap.size, i, none⟩) (Nat.le_refl _) u⟩
theorem TE.s5 {w0 w : World} {s : KV} {x : XV} (h : TE w0 w s x) (i : Nat) (u : Value) : TE w0 (w.setCell ⟨w0.heap.size + 1, i, none⟩ u) s x := by
  obtain ⟨l4, h4⟩ := h.b4
  obtain ⟨l5, h5⟩ := h.b5
  exact ⟨h.k.farZ h5 (by decide) (by decide) u, h.z.farZ h5 (by decide) (by decide) (by decide) u, ⟨_, h4.far (p := ⟨w0.heap.size + 1, i, none⟩) (by show w0.heap.size ≠ w0.heap.size + 1; omega) u⟩, ⟨_, h5.set_ i u⟩, h.ext.setCell (p := ⟨w0.heap.size + 1, i, none⟩) (Nat.le_succ _) u⟩
def zeroK : KV := ⟨0, 0, 0, 0, none, 0, 0, [], none, 0, 0, [], none, 0, 0, []⟩
theorem zeroK_ok (w : World) : zeroK.Ok w := ⟨⟨by decide, by decide⟩, ⟨by decide, by decide⟩, ⟨by decide, by decide⟩, ⟨by decide, by decide⟩, Ts.nil_ _ _ (by omega), Nat.le_refl _, Nat.zero_le _, Ts.nil_ _ _ (by omega), Nat.le_refl _, Nat.zero_le _, Ts.nil_ _ _ (by omega), Nat.le_refl _, Nat.zero_le _⟩
theorem zeroK_few : zeroK.Few := ⟨Nat.zero_le _, Nat.zero_le _, Nat.zero_le _, by unfold zeroK; simp⟩
theorem Blk.tfr {w w' : World} {g : Nat} {t : TypeId} {l : List Value} (h : Blk w g t l) (ht : bigT t = false) (hf : TFr w w') : Blk w' g t l := hf.keep g _ t _ h ht
/-- what Take leaves -/
def KTakePost (ver : Int) (b : List UInt8) (w : World) (e : Ending) (w' : World) : Prop :=
  ∃ (s : KV) (x : XV) (code : Nat), e = .returned (.tuple #[s.val, x.val, .int .i64 code]) ∧ s.Ok w' ∧ x.Ok w' ∧ s.Few ∧ x.Few ∧ KTaken ver b s x.more x.top code ∧ Ext w w'
theorem TE.to {w0 w w' : World} {s : KV} {x : XV} (h : TE w0 w s x) (he : Ext w w') : TE w0 w' s x := by
  obtain ⟨l4, h4⟩ := h.b4
  obtain ⟨l5, h5⟩ := h.b5
  exact ⟨h.k.ext he, h.z.ext he, ⟨_, h4.ext he⟩, ⟨_, h5.ext he⟩, h.ext.trans he⟩
theorem te_end {ver : Int} {b : List UInt8} {w W : World} {s : KV} {x : XV} {POST : Ending → World → Prop} (HE : ∀ (W : World) (e : Ending), POST e W ↔ ∃ (s : KV) (x : XV) (code : Nat), e = .returned (.tuple #[s.val, x.val, .int .i64 code]) ∧ s.Ok W ∧ x.Ok W ∧ s.Few ∧ x.Few ∧ KTaken ver b s x.more x.top code ∧ Ext w W)
    (h : TE w W s x) (hs : s.Few) (hx : x.Few) (hk : IsKat ver b s x.more x.top) (hm : x.more.length = s.sns.length) : POST (.returned (.tuple #[.agg #[.int .i64 s.ver, .int .i64 s.next, .int .i64 s.keep, .int .i64 s.quota, .slice s.A1 s.n1 s.c1, .slice s.A2 s.n2 s.c2, .slice s.A3 s.n3 s.c3], .agg #[.slice x.A1 x.n1 x.c1, .slice x.A2 x.n2 x.c2], .int .i64 0])) W :=
  (HE _ _).2 ⟨s, x, 0, rfl, h.k.ok, h.z.ok, hs, hx, .inl ⟨rfl, hk, hm⟩, h.ext⟩
theorem kread_snoc (v : Int) (l : List FV) (j : Nat) (h : j < l.length) : kread v (l.take (j + 1)) = kstep v (kread v (l.take j)) l[j] := fold_take _ _ l j h
set_option maxRecDepth 100000 in
set_option maxHeartbeats 3200000 in
theorem image_Take_ver (ver : Int) (A : Option Addr) (n c : Nat) (b : List UInt8) (w : World) (hv : inI ver 1 3 = false) :
    Calls Tryz.prog 6 #[.slice A n c, .int .i64 ver] w (KTakePost ver b w) := by
  have HE : Hid (∀ (W : World) (e : Ending), KTakePost ver b w e W ↔ ∃ (s : KV) (x : XV) (code : Nat), e = .returned (.tuple #[s.val, x.val, .int .i64 code]) ∧ s.Ok W ∧ x.Ok W ∧ s.Few ∧ x.Few ∧ KTaken ver b s x.more x.top code ∧ Ext w W) := Lib.hid fun _ _ => Iff.rfl
  generalize KTakePost ver b w = POST at *
  have HKC : Hid (1 = kcode ver b) := Lib.hid (by unfold kcode; rw [if_pos hv])
  have HNO : Hid (∀ t m a, ¬ IsKat ver b t m a) := Lib.hid (fun t m a h => by
    have hk := kmay_parts h.may
    rw [inI_t hk.v1 hk.v3] at hv; cases hv)
  have hh : ver < 1 ∨ 3 < ver := by
    by_cases h1 : 1 ≤ ver
    · by_cases h3 : ver ≤ 3
      · rw [inI_t h1 h3] at hv; cases hv
      · omega
    · omega
  clear hv
  have hG4 := (Blk.new w 29 [.int .i64 0, .int .i64 0, .int .i64 0, .int .i64 0, .slice none 0 0, .slice none 0 0, .slice none 0 0]).alloc (.cells #[.slice none 0 0, .slice none 0 0] 33)
  have hG5 := Blk.new (w.alloc (.cells #[.int .i64 0, .int .i64 0, .int .i64 0, .int .i64 0, .slice none 0 0, .slice none 0 0, .slice none 0 0] 29)) 33 [.slice none 0 0, .slice none 0 0]
  have xw : Ext w ((w.alloc (.cells #[.int .i64 0, .int .i64 0, .int .i64 0, .int .i64 0, .slice none 0 0, .slice none 0 0, .slice none 0 0] 29)).alloc (.cells #[.slice none 0 0, .slice none 0 0] 33)) := ((Ext.refl w).alloc _).alloc _
  rw [show (w.alloc (.cells #[.int .i64 0, .int .i64 0, .int .i64 0, .int .i64 0, .slice none 0 0, .slice none 0 0, .slice none 0 0] 29)).heap.size = w.heap.size + 1 by simp] at hG5
  rcases hh with h | h
  · go_enter Tryz.func6, Tryz.ntmps6
    go_upto_region 1 with fail
    generalize ((w.alloc (.cells #[.int .i64 0, .int .i64 0, .int .i64 0, .int .i64 0, .slice none 0 0, .slice none 0 0, .slice none 0 0] 29)).alloc (.cells #[.slice none 0 0, .slice none 0 0] 33)) = W0 at *
    have g0 := hG4.cell 0
    have g1 := hG4.cell 1
    have g2 := hG4.cell 2
    have g3 := hG4.cell 3
    have g4 := hG4.cell 4
    have g5 := hG4.cell 5
    have g6 := hG4.cell 6
    simp only [List.getElem?_cons_zero, List.getElem?_cons_succ] at g0 g1 g2 g3 g4 g5 g6
    have p0 := hG4.frozen 0
    have p1 := hG4.frozen 1
    have p2 := hG4.frozen 2
    have p3 := hG4.frozen 3
    have p4 := hG4.frozen 4
    have p5 := hG4.frozen 5
    have p6 := hG4.frozen 6
    have k0 := hG5.cell 0
    have k1 := hG5.cell 1
    simp only [List.getElem?_cons_zero, List.getElem?_cons_succ] at k0 k1
    have q0 := hG5.frozen 0
    have q1 := hG5.frozen 1
    have HXZ := Lib.hid xw
    clear hG4 hG5
    go_wp2_with fail
    refine bodyPost_ret (v := .tuple #[.agg #[.int .i64 0, .int .i64 0, .int .i64 0, .int .i64 0, .slice none 0 0, .slice none 0 0, .slice none 0 0], .agg #[.slice none 0 0, .slice none 0 0], .int .i64 1]) (by simp [results, Tryz.results6, go_sem, g0, g1, g2, g3, g4, g5, g6, k0, k1]) rfl ?_
    refine (HE.out _ _).2 ⟨zeroK, noneX, 1, rfl, zeroK_ok _, noneX_ok _, zeroK_few, noneX_few, .inr ⟨by omega, HKC.out, rfl, rfl, rfl, rfl, rfl, rfl, rfl, rfl, rfl, HNO.out⟩, ?_⟩
    repeat (refine Ext.setCell ?_ (by simp) _)
    exact HXZ.out
  · have h' : ¬ ver < 1 := by omega
    go_enter Tryz.func6, Tryz.ntmps6
    go_upto_region 1 with fail
    generalize ((w.alloc (.cells #[.int .i64 0, .int .i64 0, .int .i64 0, .int .i64 0, .slice none 0 0, .slice none 0 0, .slice none 0 0] 29)).alloc (.cells #[.slice none 0 0, .slice none 0 0] 33)) = W0 at *
    have g0 := hG4.cell 0
    have g1 := hG4.cell 1
    have g2 := hG4.cell 2
    have g3 := hG4.cell 3
    have g4 := hG4.cell 4
    have g5 := hG4.cell 5
    have g6 := hG4.cell 6
    simp only [List.getElem?_cons_zero, List.getElem?_cons_succ] at g0 g1 g2 g3 g4 g5 g6
    have p0 := hG4.frozen 0
    have p1 := hG4.frozen 1
    have p2 := hG4.frozen 2
    have p3 := hG4.frozen 3
    have p4 := hG4.frozen 4
    have p5 := hG4.frozen 5
    have p6 := hG4.frozen 6
    have k0 := hG5.cell 0
    have k1 := hG5.cell 1
    simp only [List.getElem?_cons_zero, List.getElem?_cons_succ] at k0 k1
    have q0 := hG5.frozen 0
    have q1 := hG5.frozen 1
    have HXZ := Lib.hid xw
    clear hG4 hG5
    go_wp2_with fail
    refine bodyPost_ret (v := .tuple #[.agg #[.int .i64 0, .int .i64 0, .int .i64 0, .int .i64 0, .slice none 0 0, .slice none 0 0, .slice none 0 0], .agg #[.slice none 0 0, .slice none 0 0], .int .i64 1]) (by simp [results, Tryz.results6, go_sem, g0, g1, g2, g3, g4, g5, g6, k0, k1]) rfl ?_
    refine (HE.out _ _).2 ⟨zeroK, noneX, 1, rfl, zeroK_ok _, noneX_ok _, zeroK_few, noneX_few, .inr ⟨by omega, HKC.out, rfl, rfl, rfl, rfl, rfl, rfl, rfl, rfl, rfl, HNO.out⟩, ?_⟩
    repeat (refine Ext.setCell ?_ (by simp) _)
    exact HXZ.out

set_option maxRecDepth 100000 in
set_option maxHeartbeats 6400000 in
theorem image_Take_in (ver : Int) (A : Option Addr) (n c : Nat) (b : List UInt8) (w : World) (hb : Bs w A n b) (hn : n ≤ 100000) (hnc : n ≤ c) (hv : inI ver 1 3 = true) :
    Calls Tryz.prog 6 #[.slice A n c, .int .i64 ver] w (KTakePost ver b w) := by
  have HE : Hid (∀ (W : World) (e : Ending), KTakePost ver b w e W ↔ ∃ (s : KV) (x : XV) (code : Nat), e = .returned (.tuple #[s.val, x.val, .int .i64 code]) ∧ s.Ok W ∧ x.Ok W ∧ s.Few ∧ x.Few ∧ KTaken ver b s x.more x.top code ∧ Ext w W) := Lib.hid fun _ _ => Iff.rfl
  generalize KTakePost ver b w = POST at *
  obtain ⟨hv1, hv3⟩ := inI_iff.1 hv
  have HKC : Hid (kcode ver b = if (ttrow b).2 ≠ 0 then (ttrow b).2 else if checkN (specL 5 ver) (ttrow b).1 ≠ 0 then checkN (specL 5 ver) (ttrow b).1 else if kreadE ver (ttrow b).1 ≠ 0 then kreadE ver (ttrow b).1 else 6) := Lib.hid (by unfold kcode; rw [if_neg (by simp [hv])])
  have HALL := Lib.hid (fun (t : KV) (m : List (List FV)) (a : List FV) (h : IsKat ver b t m a) => h.all)
  have HTOP6 : Hid (6 ≤ topS ver) := Lib.hid (by rcases top_ver hv1 hv3 with h | h | h <;> omega)
  have HMANY := Lib.hid (fun h ms hs => ttrow_many (b := b) h (ms := ms) hs)
  have HTK := Lib.hid (fun (W : World) (h : Ext w W) => tlv_Take_any A n c b W (hb.ext h) hn hnc)
  generalize ttrow b = tr at *
  obtain ⟨L, er⟩ := tr
  dsimp only at HKC HALL HMANY HTK
  have HB := Lib.hid hb
  clear hb hv
  have hG4 := (Blk.new w 29 [.int .i64 0, .int .i64 0, .int .i64 0, .int .i64 0, .slice none 0 0, .slice none 0 0, .slice none 0 0]).alloc (.cells #[.slice none 0 0, .slice none 0 0] 33)
  have hG5 := Blk.new (w.alloc (.cells #[.int .i64 0, .int .i64 0, .int .i64 0, .int .i64 0, .slice none 0 0, .slice none 0 0, .slice none 0 0] 29)) 33 [.slice none 0 0, .slice none 0 0]
  have xw : Ext w ((w.alloc (.cells #[.int .i64 0, .int .i64 0, .int .i64 0, .int .i64 0, .slice none 0 0, .slice none 0 0, .slice none 0 0] 29)).alloc (.cells #[.slice none 0 0, .slice none 0 0] 33)) := ((Ext.refl w).alloc _).alloc _
  rw [show (w.alloc (.cells #[.int .i64 0, .int .i64 0, .int .i64 0, .int .i64 0, .slice none 0 0, .slice none 0 0, .slice none 0 0] 29)).heap.size = w.heap.size + 1 by simp] at hG5
  have h1' : ¬ ver < 1 := by omega
  have h3' : ¬ 3 < ver := by omega
  go_enter Tryz.func6, Tryz.ntmps6
  go_upto_region 1 with fail
  generalize ((w.alloc (.cells #[.int .i64 0, .int .i64 0, .int .i64 0, .int .i64 0, .slice none 0 0, .slice none 0 0, .slice none 0 0] 29)).alloc (.cells #[.slice none 0 0, .slice none 0 0] 33)) = W0 at *
  go_wp2_with fail
  clear h1' h3'
  refine (HTK.out _ xw).mono ?_
  rintro e w1 ⟨A1, c1, ms, rfl, hms, hss, hc1, x1⟩
  replace hG4 := hG4.ext x1
  replace hG5 := hG5.ext x1
  replace xw := xw.trans x1
  clear HTK x1
  by_cases her : er = 0
  case neg =>
    have hcb := beq_f (show ((er : Nat) : Int) ≠ 0 by omega)
    have hcb2 := bne_t (show ((er : Nat) : Int) ≠ 0 by omega)
    have HC0 := Lib.hid her
    have HCD : Hid (er = kcode ver b) := Lib.hid (by rw [HKC.out, if_pos her])
    have HNO : Hid (∀ t m a, ¬ IsKat ver b t m a) := Lib.hid (fun t m a h => her (HALL.out t m a h).1)
    clear her HKC HALL HMANY hms hss HTOP6
    have g0 := hG4.cell 0
    have g1 := hG4.cell 1
    have g2 := hG4.cell 2
    have g3 := hG4.cell 3
    have g4 := hG4.cell 4
    have g5 := hG4.cell 5
    have g6 := hG4.cell 6
    simp only [List.getElem?_cons_zero, List.getElem?_cons_succ] at g0 g1 g2 g3 g4 g5 g6
    have p0 := hG4.frozen 0
    have p1 := hG4.frozen 1
    have p2 := hG4.frozen 2
    have p3 := hG4.frozen 3
    have p4 := hG4.frozen 4
    have p5 := hG4.frozen 5
    have p6 := hG4.frozen 6
    have k0 := hG5.cell 0
    have k1 := hG5.cell 1
    simp only [List.getElem?_cons_zero, List.getElem?_cons_succ] at k0 k1
    have q0 := hG5.frozen 0
    have q1 := hG5.frozen 1
    have HXZ := Lib.hid xw
    clear hG4 hG5
    go_wp2_with fail
    refine bodyPost_ret (v := .tuple #[.agg #[.int .i64 0, .int .i64 0, .int .i64 0, .int .i64 0, .slice none 0 0, .slice none 0 0, .slice none 0 0], .agg #[.slice none 0 0, .slice none 0 0], .int .i64 er]) (by simp [results, Tryz.results6, go_sem, g0, g1, g2, g3, g4, g5, g6, k0, k1]) rfl ?_
    refine (HE.out _ _).2 ⟨zeroK, noneX, er, rfl, zeroK_ok _, noneX_ok _, zeroK_few, noneX_few, .inr ⟨HC0.out, HCD.out, rfl, rfl, rfl, rfl, rfl, rfl, rfl, rfl, rfl, HNO.out⟩, ?_⟩
    repeat (refine Ext.setCell ?_ (by simp) _)
    exact HXZ.out
  case pos =>
    subst her
    obtain ⟨hml, hmf⟩ := HMANY.out rfl ms hss
    have HCK := Lib.hid (fun (W : World) (h : Ext w1 W) => forms_Check 5 ver A1 ms.length c1 ms W (hms.ext h) (by omega))
    obtain ⟨code, hcode⟩ : ∃ k, k = checkN (specL 5 ver) ms := ⟨_, rfl⟩
    have HCL : Hid (checkN (specL 5 ver) L = code) := Lib.hid (by rw [hcode, s_check hss])
    rw [← hcode] at HCK
    have HSS := Lib.hid hss
    have HMF := Lib.hid hmf
    have HMS := Lib.hid hms
    clear hms hss hmf hcode HMANY
    go_wp2_with fail
    refine (HCK.out _ (Ext.refl w1)).mono ?_
    rintro e w2 ⟨rfl, x2⟩
    replace hG4 := hG4.ext x2
    replace hG5 := hG5.ext x2
    replace xw := xw.trans x2
    have HX2 := Lib.hid x2
    clear HCK x2
    by_cases hcd : code = 0
    case neg =>
      have hcb2 := bne_t (show ((code : Nat) : Int) ≠ 0 by omega)
      have HC0 := Lib.hid hcd
      have HCD : Hid (code = kcode ver b) := Lib.hid (by rw [HKC.out, if_neg (by simp), HCL.out, if_pos hcd])
      have HNO : Hid (∀ t m a, ¬ IsKat ver b t m a) := Lib.hid (fun t m a h => hcd (HCL.out.symm.trans (HALL.out t m a h).2.1))
      clear hcd HKC HALL HTOP6
      have g0 := hG4.cell 0
      have g1 := hG4.cell 1
      have g2 := hG4.cell 2
      have g3 := hG4.cell 3
      have g4 := hG4.cell 4
      have g5 := hG4.cell 5
      have g6 := hG4.cell 6
      simp only [List.getElem?_cons_zero, List.getElem?_cons_succ] at g0 g1 g2 g3 g4 g5 g6
      have p0 := hG4.frozen 0
      have p1 := hG4.frozen 1
      have p2 := hG4.frozen 2
      have p3 := hG4.frozen 3
      have p4 := hG4.frozen 4
      have p5 := hG4.frozen 5
      have p6 := hG4.frozen 6
      have k0 := hG5.cell 0
      have k1 := hG5.cell 1
      simp only [List.getElem?_cons_zero, List.getElem?_cons_succ] at k0 k1
      have q0 := hG5.frozen 0
      have q1 := hG5.frozen 1
      have HXZ := Lib.hid xw
      clear hG4 hG5
      go_wp2_with fail
      refine bodyPost_ret (v := .tuple #[.agg #[.int .i64 0, .int .i64 0, .int .i64 0, .int .i64 0, .slice none 0 0, .slice none 0 0, .slice none 0 0], .agg #[.slice none 0 0, .slice none 0 0], .int .i64 code]) (by simp [results, Tryz.results6, go_sem, g0, g1, g2, g3, g4, g5, g6, k0, k1]) rfl ?_
      refine (HE.out _ _).2 ⟨zeroK, noneX, code, rfl, zeroK_ok _, noneX_ok _, zeroK_few, noneX_few, .inr ⟨HC0.out, HCD.out, rfl, rfl, rfl, rfl, rfl, rfl, rfl, rfl, rfl, HNO.out⟩, ?_⟩
      repeat (refine Ext.setCell ?_ (by simp) _)
      exact HXZ.out
    case pos =>
      subst hcd
      have HTP := Lib.hid (fun W => forms_Top 5 ver W)
      rw [show topL (specL 5 ver) = topS ver from rfl] at HTP
      have HSP := Lib.hid (fun (W : World) (h : Ext w1 W) => tlv_Split_own (topS ver) A1 ms.length c1 ms W (HMS.out.ext h) (by omega) (fun f hf => by have := HMF.out f hf; omega))
      go_wp2_with fail
      refine (HTP.out _).mono ?_
      rintro e w3 ⟨rfl, x3⟩
      go_wp2_with fail
      refine (HSP.out _ (HX2.out.trans x3)).mono ?_
      rintro e w4 ⟨vK, vQ, P, Q, rfl, hoK, hoQ, hfK, hfQ, hPs, hQs, x4⟩
      obtain ⟨AK, cK, rfl, _⟩ := own_form hoK
      obtain ⟨AQ, cQ, rfl, _⟩ := own_form hoQ
      replace hG4 := (hG4.ext x3).ext x4
      replace hG5 := (hG5.ext x3).ext x4
      have hbase : w.heap.size ≤ w3.heap.size := (xw.trans x3).size
      replace xw := (xw.trans x3).trans x4
      have HPR : Hid (OwnR w4 w.heap.size (.slice AK P.length cK) P) := Lib.hid (OwnR.to ⟨hoK, hfK⟩ hbase)
      have HQR : Hid (OwnR w4 w.heap.size (.slice AQ Q.length cQ) Q) := Lib.hid (OwnR.to ⟨hoQ, hfQ⟩ hbase)
      obtain ⟨fS, fN⟩ := s_filter HSS.out (topS ver)
      have HPL : Hid (P.map FV.s = (L.filter (loB (topS ver))).map FV.s) := Lib.hid (hPs.trans fS)
      have HQL : Hid (Q.map FV.s = (L.filter fun f => !loB (topS ver) f).map FV.s) := Lib.hid (hQs.trans fN)
      have hPl : P.length ≤ 16384 := by
        have h1 := congrArg List.length hPs
        rw [List.length_map, List.length_map] at h1
        have := List.length_filter_le (loB (topS ver)) ms; omega
      have hQl : Q.length ≤ 16384 := by
        have h1 := congrArg List.length hQs
        rw [List.length_map, List.length_map] at h1
        have := List.length_filter_le (fun f => !loB (topS ver) f) ms; omega
      have HPF : Hid (∀ f ∈ P, f.len ≤ 16384) := Lib.hid (fun f hf => by
        have h1 : f.s ∈ (ms.filter (loB (topS ver))).map FV.s := by rw [← hPs]; exact List.mem_map_of_mem hf
        obtain ⟨k, hk, e⟩ := List.mem_map.1 h1
        have := HMF.out k (List.mem_filter.1 hk).1
        rw [← (s_parts e).2.2.2.1]; exact this)
      have HKE : Hid (kreadE ver L = kreadE ver P) := Lib.hid (by rw [s_kreadE HPL.out, kreadE_filter ver _ HTOP6.out])
      clear hoK hoQ hfK hfQ hPs hQs fS fN x3 x4 HSP HTP HSS HMF HMS HX2 hbase
      have hg := Blk.new w4 51 [.int .i64 ver, .int .i64 0, .int .i64 0, .int .i64 0, .int .i64 0, .slice none 0 0, .slice none 0 0, .slice none 0 0, .slice AQ Q.length cQ, .slice none 0 0]
      have xg : Ext w4 (w4.alloc (.cells #[.int .i64 ver, .int .i64 0, .int .i64 0, .int .i64 0, .int .i64 0, .slice none 0 0, .slice none 0 0, .slice none 0 0, .slice AQ Q.length cQ, .slice none 0 0] 51)) := (Ext.refl w4).alloc _
      go_upto_region 10 with fail
      generalize w4.alloc (.cells #[.int .i64 ver, .int .i64 0, .int .i64 0, .int .i64 0, .int .i64 0, .slice none 0 0, .slice none 0 0, .slice none 0 0, .slice AQ Q.length cQ, .slice none 0 0] 51) = W5 at *
      have hgw : w.heap.size ≤ w4.heap.size := xw.size
      have hgw2 : w.heap.size + 1 < w4.heap.size := hG5.lt
      generalize w4.heap.size = g at hg hgw hgw2 ⊢
      have HP5 := Lib.hid (HPR.out.ext xg)
      have HG4 := Lib.hid (hG4.ext xg)
      have HG5 := Lib.hid (hG5.ext xg)
      have HR5 : Hid (RS w W5 g ver zeroK ⟨AQ, Q.length, cQ, Q, none, 0, 0, []⟩) := Lib.hid ⟨hg, ⟨⟨by decide, by decide⟩, ⟨by decide, by decide⟩, ⟨by decide, by decide⟩, ⟨by decide, by decide⟩, World.ownsRow_nil _ _ _ _, World.ownsRow_nil _ _ _ _, World.ownsRow_nil _ _ _ _, by unfold zeroK; simp, by unfold zeroK; simp, by unfold zeroK; simp⟩, ⟨HQR.out.ext xg, rfl, World.ownsRow_nil _ _ _ _, by simp⟩, hgw, xw.trans xg, rfl⟩
      have HKS := Lib.hid (kread_snoc ver P)
      have HESN := Lib.hid (kreadE_snoc ver P)
      have HEBD := Lib.hid (kreadE_bad ver P)
      clear hg xg hG4 hG5 xw HPR HQR
      go_wp2_with fail
      go_loopw [53] (fun i wr => ∃ j : Nat, i = .int .i64 j ∧ j ≤ P.length ∧ (∃ (s : KV) (x : XV), RS w wr g ver s x ∧ TFr W5 wr ∧ Hid (kread ver (P.take j) = s.rk x.more) ∧ (s.n1 ≤ j ∧ s.n2 ≤ j ∧ s.n3 ≤ j ∧ x.n2 ≤ j) ∧ Hid (x.top = Q ∧ x.n1 = Q.length) ∧ Hid ((∀ y ∈ x.sns, y.len ≤ 17000) ∧ ∀ y ∈ s.sns, y.len ≤ 17000)) ∧ Hid (kreadE ver (P.take j) = 0)) (fun i _ => P.length - (intOf i).toNat)
      case atStart => exact ⟨0, rfl, by omega, ⟨zeroK, _, HR5.out, TFr.refl _, Lib.hid rfl, ⟨Nat.le_refl _, Nat.le_refl _, Nat.le_refl _, Nat.le_refl _⟩, Lib.hid ⟨rfl, rfl⟩, Lib.hid ⟨by simp, by unfold zeroK; simp⟩⟩, Lib.hid rfl⟩
      case round =>
        clear HR5
        obtain ⟨j, rfl, hj, ⟨s, x, hS, hT, HKR, ⟨b1, b2, b3, b4⟩, HTOPQ, HLEN⟩, HEZ⟩ := hrel
        have hPfs := (HP5.out.tfr hT).fs rfl
        by_cases hjn : j < P.length
        · obtain ⟨bb, off, rfl, e0, e1, e2, e3⟩ := hPfs.at_ hjn
          have hfo := hPfs.ok P[j] (List.getElem_mem _)
          have hfl := HPF.out P[j] (List.getElem_mem _)
          have Hks := Lib.hid (HKS.out j hjn)
          have Hes := Lib.hid (HESN.out j hjn HEZ.out)
          have Heb := Lib.hid (HEBD.out j hjn HEZ.out)
          generalize P[j] = f at *
          have hj0 : (0 : Int) ≤ j := by omega
          have hj1 : (j : Int) < P.length := by omega
          have xa : Ext wr (wr.alloc (.cells #[.int .i64 f.num, .int .i64 f.wire, .int .u64 f.n, .slice f.A f.len f.cap] 54)) := (Ext.refl wr).alloc _
          have HFD := Lib.hid (reader_field w g ver s x f _ (hS.to xa) (hfo.ext xa) hfl (by omega) (by omega) (by omega) (by omega))
          have HTA := Lib.hid (hT.trans (TFr.of_ext xa))
          unfold FldPost FV.val at HFD
          clear hfo hS hT xa hPfs HEBD HESN HKS
          go_wp2_with fail
          refine HFD.out.mono ?_
          rintro e w6 ⟨s', x', rfl, hS', hT', hk', ⟨k1, k2, k3, k4⟩, htop', hl1, hl2⟩
          have HS' := Lib.hid hS'
          have HT' := Lib.hid (HTA.out.trans hT')
          have HK' := Lib.hid hk'
          have HTQ' : Hid (x'.top = Q ∧ x'.n1 = Q.length) := Lib.hid ⟨htop'.1.trans HTOPQ.out.1, htop'.2.trans HTOPQ.out.2⟩
          have HLEN' : Hid ((∀ y ∈ x'.sns, y.len ≤ 17000) ∧ ∀ y ∈ s'.sns, y.len ≤ 17000) := Lib.hid ⟨hl1 HLEN.out.1, hl2 HLEN.out.2⟩
          clear hS' hT' hk' htop' hl1 hl2 HFD HTA e0 e1 e2 e3 HTOPQ HLEN
          generalize recCode ver f = rc at *
          by_cases hrc : rc = 0
          · subst hrc
            go_wp2_with fail
            go_roundw
            case rel => exact ⟨j + 1, val_int (by omega), by omega, ⟨s', x', HS'.out, HT'.out, Lib.hid (by rw [Hks.out, HKR.out]; exact (HK'.out (by first | rfl | trivial)).symm), ⟨by omega, by omega, by omega, by omega⟩, HTQ', HLEN'⟩, Lib.hid Hes.out⟩
            case measure => simp [intOf]; omega
          · have hcb2 := bne_t (show ((rc : Nat) : Int) ≠ 0 by omega)
            have HC0 := Lib.hid hrc
            have HER : Hid (kreadE ver L = rc) := Lib.hid (by rw [HKE.out]; exact Heb.out hrc)
            have HCD : Hid (rc = kcode ver b) := Lib.hid (by rw [HKC.out, if_neg (by simp), if_neg (by rw [HCL.out]; simp), HER.out, if_pos hrc])
            have HNO : Hid (∀ t m a, ¬ IsKat ver b t m a) := Lib.hid (fun t m a h => hrc (HER.out.symm.trans (HALL.out t m a h).2.2.1))
            have hG4 := HG4.out.tfr (by decide) HT'.out
            have hG5 := HG5.out.tfr (by decide) HT'.out
            have xw := HS'.out.ext
            clear hrc HKC HALL HTOP6 Heb Hes Hks HK' HTQ' HLEN'
            have g0 := hG4.cell 0
            have g1 := hG4.cell 1
            have g2 := hG4.cell 2
            have g3 := hG4.cell 3
            have g4 := hG4.cell 4
            have g5 := hG4.cell 5
            have g6 := hG4.cell 6
            simp only [List.getElem?_cons_zero, List.getElem?_cons_succ] at g0 g1 g2 g3 g4 g5 g6
            have p0 := hG4.frozen 0
            have p1 := hG4.frozen 1
            have p2 := hG4.frozen 2
            have p3 := hG4.frozen 3
            have p4 := hG4.frozen 4
            have p5 := hG4.frozen 5
            have p6 := hG4.frozen 6
            have k0 := hG5.cell 0
            have k1 := hG5.cell 1
            simp only [List.getElem?_cons_zero, List.getElem?_cons_succ] at k0 k1
            have q0 := hG5.frozen 0
            have q1 := hG5.frozen 1
            have HXZ := Lib.hid xw
            clear hG4 hG5
            go_wp2_with fail
            refine bodyPost_ret (v := .tuple #[.agg #[.int .i64 0, .int .i64 0, .int .i64 0, .int .i64 0, .slice none 0 0, .slice none 0 0, .slice none 0 0], .agg #[.slice none 0 0, .slice none 0 0], .int .i64 rc]) (by simp [results, Tryz.results6, go_sem, g0, g1, g2, g3, g4, g5, g6, k0, k1]) rfl ?_
            refine (HE.out _ _).2 ⟨zeroK, noneX, rc, rfl, zeroK_ok _, noneX_ok _, zeroK_few, noneX_few, .inr ⟨HC0.out, HCD.out, rfl, rfl, rfl, rfl, rfl, rfl, rfl, rfl, rfl, HNO.out⟩, ?_⟩
            repeat (refine Ext.setCell ?_ (by simp) _)
            exact HXZ.out
        · obtain rfl : j = P.length := by omega
          have HKP : Hid (kread ver P = s.rk x.more) := Lib.hid (by have := HKR.out; rw [List.take_length] at this; exact this)
          have HEP : Hid (kreadE ver L = 0) := Lib.hid (by rw [HKE.out]; have := HEZ.out; rw [List.take_length] at this; exact this)
          have hq1 := HTOPQ.out
          have hsok := hS.ok.ok
          have hxok := hS.oz.ok
          have hsf : s.Few := ⟨by omega, by omega, by omega, fun y hy => by have := HLEN.out.2 y hy; omega⟩
          have hxf : x.Few := ⟨by rw [hq1.2]; omega, by omega, fun y hy => by have := HLEN.out.1 y hy; omega⟩
          have HPUT := Lib.hid (image_Put s x ver wr.drew (hsok.ext (Ext.refl wr).drew) (hxok.ext (Ext.refl wr).drew) hsf hxf)
          have HIS : Hid (kput ver s x.more x.top = (b, 0) → IsKat ver b s x.more x.top) := Lib.hid (fun h => kput_is h hxok.kt hxok.km)
          have HML : Hid (x.more.length = s.sns.length) := Lib.hid ((more_len x).trans hS.len)
          have HBK : Hid (∀ t m a, IsKat ver b t m a → kput ver s x.more x.top = (b, 0)) := Lib.hid (fun t m a h => by
            obtain ⟨_, _, _, k4, k5⟩ := HALL.out t m a h
            exact h.back (HKP.out.symm.trans (k4 P HPL.out)) (by rw [hq1.1]; exact k5 Q HQL.out) (Nat.le_of_eq HML.out))
          have HC6 : Hid (6 = kcode ver b) := Lib.hid (by rw [HKC.out, if_neg (by simp), if_neg (by rw [HCL.out]; simp), if_neg (by rw [HEP.out]; simp)])
          unfold PutPost KV.val XV.val at HPUT
          generalize kput ver s x.more x.top = KP at *
          obtain ⟨p, ep⟩ := KP
          dsimp only at HPUT
          have HSF := Lib.hid (And.intro hsf hxf)
          have HBB := Lib.hid (HB.out.ext hS.ext)
          have hG4 := HG4.out.tfr (by decide) hT
          have hG5 := HG5.out.tfr (by decide) hT
          have HSW := Lib.hid hS
          have r1 := hS.blk.cell 1
          have r2 := hS.blk.cell 2
          have r3 := hS.blk.cell 3
          have r4 := hS.blk.cell 4
          have r5 := hS.blk.cell 5
          have r6 := hS.blk.cell 6
          have r7 := hS.blk.cell 7
          have r8 := hS.blk.cell 8
          have r9 := hS.blk.cell 9
          simp only [List.getElem?_cons_zero, List.getElem?_cons_succ] at r1 r2 r3 r4 r5 r6 r7 r8 r9
          clear hsok hxok hsf hxf hS hT hPfs HKR HEZ HTOPQ HLEN hq1 HKC HALL HTOP6 HKS HESN HEBD HKE HEP HKP HPL HQL HPF HP5 HCL HB b1 b2 b3 b4
          go_upto_region 17 with fail
          go_region_held3 (fun w' => w'.cell? ⟨g, 1, none⟩ = some (.int .i64 s.ver) ∧ w'.cell? ⟨g, 2, none⟩ = some (.int .i64 s.next) ∧ w'.cell? ⟨g, 3, none⟩ = some (.int .i64 s.keep) ∧ w'.cell? ⟨g, 4, none⟩ = some (.int .i64 s.quota) ∧ w'.cell? ⟨g, 5, none⟩ = some (.slice s.A1 s.n1 s.c1) ∧ w'.cell? ⟨g, 6, none⟩ = some (.slice s.A2 s.n2 s.c2) ∧ w'.cell? ⟨g, 7, none⟩ = some (.slice s.A3 s.n3 s.c3) ∧ w'.cell? ⟨g, 8, none⟩ = some (.slice x.A1 x.n1 x.c1) ∧ w'.cell? ⟨g, 9, none⟩ = some (.slice x.A2 x.n2 x.c2))
            (first | go_keep | (exact ⟨x6.cell r1, x6.cell r2, x6.cell r3, x6.cell r4, x6.cell r5, x6.cell r6, x6.cell r7, x6.cell r8, x6.cell r9⟩))
            (first | (go_at_call 10; refine HPUT.out.mono ?_; rintro e w6 ⟨v6, rfl, ho6, x6'⟩; obtain ⟨A6, c6, rfl, _⟩ := own_form ho6; have x6 : Ext wr w6 := ((Ext.refl wr).drew).trans x6'))
          have hb6 : Bs w6 A6 p.length p := Bs.of_own ho6
          have HSW6 := Lib.hid (HSW.out.to x6)
          have HB6 := Lib.hid (HBB.out.ext x6)
          replace hG4 := hG4.ext x6
          replace hG5 := hG5.ext x6
          have xw := HSW6.out.ext
          replace r1 := x6.cell r1
          replace r2 := x6.cell r2
          replace r3 := x6.cell r3
          replace r4 := x6.cell r4
          replace r5 := x6.cell r5
          replace r6 := x6.cell r6
          replace r7 := x6.cell r7
          replace r8 := x6.cell r8
          replace r9 := x6.cell r9
          clear HPUT ho6 x6' HSW HBB x6
          by_cases hep : ep = 0
          case neg =>
            have hcb2 := bne_t (show ((ep : Nat) : Int) ≠ 0 by omega)
            have HNO : Hid (∀ t m a, ¬ IsKat ver b t m a) := Lib.hid (fun t m a h => by have := HBK.out t m a h; injection this with _ this; exact hep this)
            clear hep HIS HBK HML hb6 r1 r2 r3 r4 r5 r6 r7 r8 r9
            have g0 := hG4.cell 0
            have g1 := hG4.cell 1
            have g2 := hG4.cell 2
            have g3 := hG4.cell 3
            have g4 := hG4.cell 4
            have g5 := hG4.cell 5
            have g6 := hG4.cell 6
            simp only [List.getElem?_cons_zero, List.getElem?_cons_succ] at g0 g1 g2 g3 g4 g5 g6
            have p0 := hG4.frozen 0
            have p1 := hG4.frozen 1
            have p2 := hG4.frozen 2
            have p3 := hG4.frozen 3
            have p4 := hG4.frozen 4
            have p5 := hG4.frozen 5
            have p6 := hG4.frozen 6
            have k0 := hG5.cell 0
            have k1 := hG5.cell 1
            simp only [List.getElem?_cons_zero, List.getElem?_cons_succ] at k0 k1
            have q0 := hG5.frozen 0
            have q1 := hG5.frozen 1
            have HXZ := Lib.hid xw
            clear hG4 hG5
            go_wp2_with fail
            refine bodyPost_ret (v := .tuple #[.agg #[.int .i64 0, .int .i64 0, .int .i64 0, .int .i64 0, .slice none 0 0, .slice none 0 0, .slice none 0 0], .agg #[.slice none 0 0, .slice none 0 0], .int .i64 6]) (by simp [results, Tryz.results6, go_sem, g0, g1, g2, g3, g4, g5, g6, k0, k1]) rfl ?_
            refine (HE.out _ _).2 ⟨zeroK, noneX, 6, rfl, zeroK_ok _, noneX_ok _, zeroK_few, noneX_few, .inr ⟨by omega, HC6.out, rfl, rfl, rfl, rfl, rfl, rfl, rfl, rfl, rfl, HNO.out⟩, ?_⟩
            repeat (refine Ext.setCell ?_ (by simp) _)
            exact HXZ.out
          case pos =>
            subst hep
            by_cases hpb : p = b
            case neg =>
              have HEQ := Lib.hid (bytes_Equal A6 A p.length n c6 c p b false (by simpa using hpb) w6 hb6 HB6.out)
              have HNO : Hid (∀ t m a, ¬ IsKat ver b t m a) := Lib.hid (fun t m a h => by have := HBK.out t m a h; injection this with this _; exact hpb this)
              clear hpb HIS HBK HML hb6 r1 r2 r3 r4 r5 r6 r7 r8 r9
              go_wp2_with fail
              refine HEQ.out.mono ?_
              rintro e w7 ⟨rfl, rfl⟩
              clear HEQ
              have g0 := hG4.cell 0
              have g1 := hG4.cell 1
              have g2 := hG4.cell 2
              have g3 := hG4.cell 3
              have g4 := hG4.cell 4
              have g5 := hG4.cell 5
              have g6 := hG4.cell 6
              simp only [List.getElem?_cons_zero, List.getElem?_cons_succ] at g0 g1 g2 g3 g4 g5 g6
              have p0 := hG4.frozen 0
              have p1 := hG4.frozen 1
              have p2 := hG4.frozen 2
              have p3 := hG4.frozen 3
              have p4 := hG4.frozen 4
              have p5 := hG4.frozen 5
              have p6 := hG4.frozen 6
              have k0 := hG5.cell 0
              have k1 := hG5.cell 1
              simp only [List.getElem?_cons_zero, List.getElem?_cons_succ] at k0 k1
              have q0 := hG5.frozen 0
              have q1 := hG5.frozen 1
              have HXZ := Lib.hid xw
              clear hG4 hG5
              go_wp2_with fail
              refine bodyPost_ret (v := .tuple #[.agg #[.int .i64 0, .int .i64 0, .int .i64 0, .int .i64 0, .slice none 0 0, .slice none 0 0, .slice none 0 0], .agg #[.slice none 0 0, .slice none 0 0], .int .i64 6]) (by simp [results, Tryz.results6, go_sem, g0, g1, g2, g3, g4, g5, g6, k0, k1]) rfl ?_
              refine (HE.out _ _).2 ⟨zeroK, noneX, 6, rfl, zeroK_ok _, noneX_ok _, zeroK_few, noneX_few, .inr ⟨by omega, HC6.out, rfl, rfl, rfl, rfl, rfl, rfl, rfl, rfl, rfl, HNO.out⟩, ?_⟩
              repeat (refine Ext.setCell ?_ (by simp) _)
              exact HXZ.out
            case pos =>
              subst hpb
              have HEQ := Lib.hid (bytes_Equal A6 A p.length n c6 c p p true (by simp) w6 hb6 HB6.out)
              have HKT := Lib.hid (HIS.out rfl)
              clear HIS HBK hb6
              go_wp2_with fail
              refine HEQ.out.mono ?_
              rintro e w7 ⟨rfl, rfl⟩
              have g0 := hG4.cell 0
              have g1 := hG4.cell 1
              have g2 := hG4.cell 2
              have g3 := hG4.cell 3
              have g4 := hG4.cell 4
              have g5 := hG4.cell 5
              have g6 := hG4.cell 6
              simp only [List.getElem?_cons_zero, List.getElem?_cons_succ] at g0 g1 g2 g3 g4 g5 g6
              have p0 := hG4.frozen 0
              have p1 := hG4.frozen 1
              have p2 := hG4.frozen 2
              have p3 := hG4.frozen 3
              have p4 := hG4.frozen 4
              have p5 := hG4.frozen 5
              have p6 := hG4.frozen 6
              have k0 := hG5.cell 0
              have k1 := hG5.cell 1
              simp only [List.getElem?_cons_zero, List.getElem?_cons_succ] at k0 k1
              have q0 := hG5.frozen 0
              have q1 := hG5.frozen 1
              have HSO : Hid (TE w w6 s x) := Lib.hid ⟨HSW6.out.ok, HSW6.out.oz, ⟨_, hG4⟩, ⟨_, hG5⟩, HSW6.out.ext⟩
              clear HEQ hG4 hG5 HB6
              go_upto_region 20 with fail
              go_region_law (fail)
              all_goals
                clear r1 r2 r3 r4 r5 r6 r7 r8 r9
                go_wp2_with fail
                refine bodyPost_ret (v := .tuple #[.agg #[.int .i64 s.ver, .int .i64 s.next, .int .i64 s.keep, .int .i64 s.quota, .slice s.A1 s.n1 s.c1, .slice s.A2 s.n2 s.c2, .slice s.A3 s.n3 s.c3], .agg #[.slice x.A1 x.n1 x.c1, .slice x.A2 x.n2 x.c2], .int .i64 0]) (by simp [results, Tryz.results6, go_sem, g0, g1, g2, g3, g4, g5, g6, k0, k1]) rfl ?_
                refine te_end (ver := ver) (b := p) (w := w) (s := s) (x := x) (POST := POST) HE.out ?_ HSF.out.1 HSF.out.2 HKT.out HML.out
                exact (((((((((HSO.out.s4 0 _).s4 1 _).s4 2 _).s4 3 _).s4 4 _).s4 5 _).s4 6 _).s5 0 _).s5 1 _).to (Ext.refl _).drew
/-- image.Take says what the document says -/
theorem image_Take (ver : Int) (A : Option Addr) (n c : Nat) (b : List UInt8) (w : World) (hb : Bs w A n b) (hn : n ≤ 100000) (hnc : n ≤ c) :
    Calls Tryz.prog 6 #[.slice A n c, .int .i64 ver] w (KTakePost ver b w) := by
  rcases hv : inI ver 1 3 with _ | _
  · exact image_Take_ver ver A n c b w hv
  · exact image_Take_in ver A n c b w hb hn hnc hv
end Go.Proofs.YtiildgoaiookhaaGreat
