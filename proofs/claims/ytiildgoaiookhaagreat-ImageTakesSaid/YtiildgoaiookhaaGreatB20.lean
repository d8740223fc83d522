/- Words and walks that the last text of this claim stands on: ImG, ImH, ImO, ImQ. No condition. -/
import Derived.Test.YtiildgoaiookhaaGreatB19
import Derived.Test.YtiildgoaiookhaaGreatB03
import Derived.Test.YtiildgoaiookhaaGreatB16
import Derived.Test.YtiildgoaiookhaaGreatB17
import Derived.Test.YtiildgoaiookhaaGreatB14
import Derived.Test.YtiildgoaiookhaaGreatB06
import Derived.Test.YtiildgoaiookhaaGreatB08
/- The walk of the closure of image.Put that adds a record. -/
namespace Go.Proofs.YtiildgoaiookhaaGreat
open Go.RowKit

theorem OwnF.far {w : World} {B g i : Nat} {t : TypeId} {f : FV} {l : List Value} (h : OwnF w B f) (hb : Blk w g t l) (ht : 5 ≠ t) (u : Value) : OwnF (w.setCell ⟨g, i, none⟩ u) B f := ⟨own_far' h.1 (own_blk_ne h.1 hb ht) u, h.2⟩
theorem OwnR.far {w : World} {B g i : Nat} {t : TypeId} {v : Value} {d : List FV} {l : List Value} (h : OwnR w B v d) (hb : Blk w g t l) (ht : 5 ≠ t) (ht2 : 54 ≠ t) (u : Value) : OwnR (w.setCell ⟨g, i, none⟩ u) B v d :=
  ⟨own_far' h.row (own_blk_ne h.row hb ht2) u, fun f hf => (h.own f hf).far hb ht u⟩
/-- what the closure writes -/
def addW (gl gf : Nat) (v : Value) : Nat → Bool := fun k => (k == gl || k == gf) || v.ownBlock == some k
theorem addW_gl (gl gf : Nat) (v : Value) : addW gl gf v gl = true := by simp [addW]
theorem addW_gf (gl gf : Nat) (v : Value) : addW gl gf v gf = true := by simp [addW]
theorem addW_row {gl gf : Nat} {v : Value} {k : Nat} (h : v.ownBlock = some k) : addW gl gf v k = true := by simp [addW, h]
theorem addW_not {gl gf k : Nat} {v : Value} (h1 : k ≠ gl) (h2 : k ≠ gf) (h3 : v.ownBlock ≠ some k) : addW gl gf v k = false := by simp [addW, h1, h2, h3]
/-- the bytes of a row that may be -/
def putB (D : List FV) : List UInt8 := if fmay D = 0 then rput D else []
theorem RowApp {w w' : World} {B : Nat} {v v' : Value} {d : List FV} {num : Int} {A : Option Addr} {c : Nat} {bs : List UInt8} (h : OwnR w B v d) (hf : OwnF w B ⟨num, 2, 0, A, bs.length, c, bs⟩) (hg : w.grownBy w' v.ownBlock)
    (hown : w'.ownsRow B 54 4 v' (d.length + 1) (rowOf d ++ [.int .i64 num, .int .i64 2, .int .u64 0, .slice A bs.length c])) : OwnR w' B v' (d ++ [⟨num, 2, 0, A, bs.length, c, bs⟩]) := h.app hf hg hown
/-- what the closure leaves -/
def AddPost (num : Int) (D : List FV) (v : Value) (d : List FV) (code gl gf B : Nat) (w : World) (e : Ending) (w' : World) : Prop :=
  e = .returned (.tuple #[]) ∧ ∃ (v' : Value) (A : Option Addr) (c : Nat), Blk w' gl 30 [v'] ∧ Blk w' gf 34 [.int .i64 ((if code = 0 then fmay D else code : Nat) : Int)] ∧
    OwnR w' B v' (d ++ [⟨num, 2, 0, A, (putB D).length, c, putB D⟩]) ∧ Fr (addW gl gf v) w w'
set_option maxRecDepth 100000 in
set_option maxHeartbeats 3200000 in
theorem image_add (num : Int) (A : Option Addr) (n c : Nat) (D : List FV) (v : Value) (d : List FV) (code gl gf B : Nat) (w : World) (hL : Blk w gl 30 [v]) (hF : Blk w gf 34 [.int .i64 (code : Int)])
    (hR : OwnR w B v d) (hB : B ≤ w.heap.size) (hD : Fs w A n D) (hn : n ≤ 20000) (hd : d.length ≤ 18000) :
    Calls Tryz.prog 31 #[.int .i64 num, .slice A n c, .pointer (some ⟨gf, 0, none⟩), .pointer (some ⟨gl, 0, none⟩)] w (AddPost num D v d code gl gf B w) := by
  have HE : Hid (∀ (W : World) (e : Ending), AddPost num D v d code gl gf B w e W ↔ e = .returned (.tuple #[]) ∧ ∃ (v' : Value) (A : Option Addr) (c : Nat), Blk W gl 30 [v'] ∧ Blk W gf 34 [.int .i64 ((if code = 0 then fmay D else code : Nat) : Int)] ∧
    OwnR W B v' (d ++ [⟨num, 2, 0, A, (putB D).length, c, putB D⟩]) ∧ Fr (addW gl gf v) w W) := Lib.hid fun _ _ => Iff.rfl
  have hne : gl ≠ gf := hL.ne_ hF (by decide)
  obtain ⟨er, her⟩ : ∃ k, k = fmay D := ⟨_, rfl⟩
  obtain ⟨bs, hbs⟩ : ∃ b, b = putB D := ⟨_, rfl⟩
  have HP : Hid (Calls Tryz.prog 32 #[.slice A n c] w fun e w' => ∃ A' c', e = .returned (.tuple #[.slice A' bs.length c', .int .i64 (er : Int)]) ∧ w'.ownsRow w.heap.size 5 1 (.slice A' bs.length c') bs.length (bs.map bv) ∧ Ext w w') := Lib.hid (by
    by_cases hz : fmay D = 0
    · unfold putB at hbs
      rw [if_pos hz] at hbs
      rw [her, hbs, hz]
      refine (tlv_Put_ok A n c D w hD hn hz).mono ?_
      rintro e w' ⟨u, rfl, ho, x⟩
      obtain ⟨A', c', rfl, _⟩ := own_form ho
      exact ⟨A', c', rfl, ho, x⟩
    · unfold putB at hbs
      rw [if_neg hz] at hbs
      rw [her, hbs]
      refine (tlv_Put_no A n c D w hD hn hz).mono ?_
      rintro e w' ⟨rfl, x⟩
      exact ⟨none, 0, rfl, World.ownsRow_nil _ _ _ _, x⟩)
  rw [← her, ← hbs] at HE
  have hbl : bs.length ≤ 16384 := by
    rw [hbs]
    unfold putB
    split
    · rename_i hz
      rw [rput_len]; exact (fmay_ok hz).2
    · simp
  clear her hbs hD
  have HRR := Lib.hid hR
  have HLL := Lib.hid hL
  have HFF := Lib.hid hF
  clear hR hL
  go_enter Tryz.func31, Tryz.ntmps31
  go_wp2_with fail
  refine HP.out.mono ?_
  rintro e w1 ⟨A1, c1, rfl, hown1, x1⟩
  have hF1 := hF.ext x1
  have f0 := hF1.cell 0
  have z0 := hF1.frozen 0
  simp only [List.getElem?_cons_zero] at f0
  have HO1 := Lib.hid (own_base hown1 hB)
  have HR1 := Lib.hid (HRR.out.ext x1)
  have HL1 := Lib.hid (HLL.out.ext x1)
  have HFR : Hid (Fr (addW gl gf v) w w1) := Lib.hid (Fr.of_ext x1 _)
  have hs1 := x1.size
  clear HP hown1 x1 HRR HLL hF HFF
  obtain ⟨cf, hcf⟩ : ∃ k, k = (if code = 0 then er else code) := ⟨_, rfl⟩
  rw [← hcf] at HE
  by_cases hc : code = 0
  case' pos =>
    rw [if_pos hc] at hcf
    have hcf' := hcf.symm
    clear hcf
    subst hcf' hc
    have hcb : ((0 : Int) == 0) = true := rfl
    go_upto_region 3 with fail
    have hF2 : Blk (w1.setCell ⟨gf, 0, none⟩ (.int .i64 (er : Int))) gf 34 [.int .i64 (er : Int)] := hF1.set_ 0 _
    have hR2 := HR1.out.far (i := 0) hF1 (by decide) (by decide) (.int .i64 (er : Int))
    have hO2 := OwnF.far (i := 0) (f := ⟨num, 2, 0, A1, bs.length, c1, bs⟩) ⟨HO1.out, show (0 : Nat) < 18446744073709551616 by decide⟩ hF1 (by decide) (.int .i64 (er : Int))
    have hL2 := HL1.out.far (p := ⟨gf, 0, none⟩) hne (.int .i64 (er : Int))
    have hFR2 := HFR.out.trans (Fr.setCell w1 (p := ⟨gf, 0, none⟩) (addW_gf gl gf v) (.int .i64 (er : Int)))
    clear hF1 f0 z0 HO1 HR1 HL1 HFR hs1 hcb
    generalize w1.setCell ⟨gf, 0, none⟩ (.int .i64 (er : Int)) = W2 at *
  case' neg =>
    rw [if_neg hc] at hcf
    have hcf' := hcf.symm
    clear hcf
    subst hcf'
    have hcb : ((code : Int) == 0) = false := beq_f (by omega)
    go_upto_region 3 with fail
    have hF2 := hF1
    have hR2 := HR1.out
    have hO2 : OwnF w1 B ⟨num, 2, 0, A1, bs.length, c1, bs⟩ := ⟨HO1.out, show (0 : Nat) < 18446744073709551616 by decide⟩
    have hL2 := HL1.out
    have hFR2 := HFR.out
    clear hF1 f0 z0 HO1 HR1 HL1 HFR hs1 hcb hc
    generalize w1 = W2 at *
  all_goals
    have hs2 := Nat.le_trans hB hFR2.size
    have l0 := hL2.cell 0
    simp only [List.getElem?_cons_zero] at l0
    have HTX := Lib.hid (image_text num A1 bs.length c1 W2.drew)
    have HF2 := Lib.hid hF2
    have HR2 := Lib.hid hR2
    have HO2 := Lib.hid hO2
    have HL2 := Lib.hid hL2
    have HFR2 := Lib.hid hFR2
    clear hF2 hR2 hO2 hL2 hFR2
    go_region_law (first
      | (refine step_app fieldsT (by omega) _ rfl rfl (by simp [Act.eval]) (own_ext (HR2.out.ext x3).row ((Ext.refl w3).alloc _)) (by simp [Act.eval]; rfl) (rd_new4 _ _ _ _ _ _) (fcells_one _ _ _ _ _ _) (by unfold maxLen; omega) (by omega) (by simp; omega) ?_; intro v6 w6 hown6 hg6 hat6; obtain ⟨A6, c6, rfl, _⟩ := own_form hown6; have hb6 := ((HL2.out.ext x3).ext ((Ext.refl w3).alloc (.cells #[.int .i64 num, .int .i64 2, .int .u64 0, .slice A1 bs.length c1] 54))).grown hg6 (fun e => own_blk_ne (own_ext (HR2.out.ext x3).row ((Ext.refl w3).alloc (.cells #[.int .i64 num, .int .i64 2, .int .u64 0, .slice A1 bs.length c1] 54))) ((HL2.out.ext x3).ext ((Ext.refl w3).alloc (.cells #[.int .i64 num, .int .i64 2, .int .u64 0, .slice A1 bs.length c1] 54))) (by decide) e.symm); have e6 := hb6.cell 0; have z6 := hb6.frozen 0; simp only [List.getElem?_cons_zero] at e6)
      | (go_simp; go_at_call 33; refine HTX.out.mono ?_; rintro e w3 ⟨rfl, x3'⟩; have x3 := ((Ext.refl W2).drew).trans x3'; clear x3'; have hs3 : B ≤ w3.heap.size := Nat.le_trans hs2 x3.size; have d3 := x3.cell l0; have d3' := Ext.cell ((Ext.refl w3).alloc (.cells #[.int .i64 num, .int .i64 2, .int .u64 0, .slice A1 bs.length c1] 54)) d3))
    all_goals
      have xal : Ext W2 (w3.alloc (.cells #[.int .i64 num, .int .i64 2, .int .u64 0, .slice A1 bs.length c1] 54)) := x3.alloc _
      have hR6 := RowApp (HR2.out.ext xal) (HO2.out.ext xal) hg6 hown6
      have hF6 := ((HF2.out.ext xal).grown hg6 (fun e => own_blk_ne (HR2.out.ext xal).row (HF2.out.ext xal) (by decide) e.symm)).far (p := ⟨gl, 0, none⟩) (fun e => hne e.symm) (.slice A6 (d.length + 1) c6)
      have hL6 := hb6.set_ 0 (.slice A6 (d.length + 1) c6)
      have hR7 := hR6.far (i := 0) hb6 (by decide) (by decide) (.slice A6 (d.length + 1) c6)
      have hFr := (((HFR2.out.trans (Fr.of_ext xal _)).trans (Fr.grown hg6 (fun k e => addW_row e))).trans (Fr.setCell w6 (p := ⟨gl, 0, none⟩) (addW_gl gl gf v) (.slice A6 (d.length + 1) c6)))
      clear hown6 hg6 hat6 hb6 e6 z6 d3 d3' xal hR6
      have HX := Lib.hid ((HE.out _ _).2 ⟨rfl, _, _, _, hL6, hF6, hR7, hFr⟩)
      go_wp2_with fail
      go_end0
      exact HX.out
end Go.Proofs.YtiildgoaiookhaaGreat

/- The walk of image.Put. -/
namespace Go.Proofs.YtiildgoaiookhaaGreat
open Go.RowKit

theorem Fr.ext0 {gl gf : Nat} {v : Value} {W0 w w' : World} {n : Nat} {xs : List Value} (h : Fr (addW gl gf v) w w') (hx : Ext W0 w) (h1 : W0.heap.size ≤ gl) (h2 : W0.heap.size ≤ gf) (ho : w.ownsRow W0.heap.size 54 4 v n xs) : Ext W0 w' :=
  h.below hx hx.size (fun k hk => by
    simp only [addW, Bool.or_eq_true, beq_iff_eq] at hk
    rcases hk with (rfl | rfl) | hk
    · exact h1
    · exact h2
    · exact (ho.lt k hk).1)
theorem numF3_len (l : List Int) (h : l.length ≤ 4) : (numF 1 l).length ≤ 4 := Nat.le_trans (numF_len l 1) h
theorem recF_snoc (k : Nat) (l : List (List FV)) (r : List FV) : recF k (l ++ [r]) = recF k l ++ [tfv k 2 0 (rput r)] := by simp [recF]
theorem map_take {α β : Type} (g : α → β) (l : List α) (j : Nat) (h : j < l.length) : (l.take (j + 1)).map g = (l.take j).map g ++ [g l[j]] := by
  rw [List.take_succ_eq_append_getElem h, List.map_append]; rfl
theorem putB_ok {D : List FV} (h : fmay D = 0) : putB D = rput D := by unfold putB; rw [if_pos h]
/-- the fields so far, and the first error, behind two pointers -/
def AddI (gl gf : Nat) (W0 : World) (code : Nat) (S : List FV) (w : World) : Prop :=
  ∃ (v : Value) (d : List FV), Blk w gl 30 [v] ∧ Blk w gf 34 [.int .i64 (code : Int)] ∧ OwnR w W0.heap.size v d ∧ d.map FV.s = S.map FV.s ∧ Ext W0 w
theorem AddI.ext {gl gf : Nat} {W0 : World} {code : Nat} {S : List FV} {w w' : World} (h : AddI gl gf W0 code S w) (he : Ext w w') : AddI gl gf W0 code S w' := by
  obtain ⟨v, d, h1, h2, h3, h4, h5⟩ := h
  exact ⟨v, d, h1.ext he, h2.ext he, h3.ext he, h4, h5.trans he⟩
theorem AddI.x {gl gf : Nat} {W0 : World} {code : Nat} {S : List FV} {w : World} (h : AddI gl gf W0 code S w) : Ext W0 w := by
  obtain ⟨_, _, _, _, _, _, h5⟩ := h
  exact h5
theorem AddI.cast {gl gf : Nat} {W0 : World} {code code' : Nat} {S S' : List FV} {w : World} (h : AddI gl gf W0 code S w) (h1 : code = code') (h2 : S = S') : AddI gl gf W0 code' S' w := h1 ▸ h2 ▸ h
theorem image_addI (num : Nat) (num' : Int) (hk : num' = num) (A : Option Addr) (n c : Nat) (D : List FV) (code gl gf : Nat) (W0 : World) (S : List FV) (w : World) (h : AddI gl gf W0 code S w) (h1 : W0.heap.size ≤ gl) (h2 : W0.heap.size ≤ gf)
    (hD : Fs w A n D) (hn : n ≤ 20000) (hS : S.length ≤ 18000) :
    Calls Tryz.prog 31 #[.int .i64 num', .slice A n c, .pointer (some ⟨gf, 0, none⟩), .pointer (some ⟨gl, 0, none⟩)] w fun e w' => e = .returned (.tuple #[]) ∧ AddI gl gf W0 (if code = 0 then fmay D else code) (S ++ [tfv num 2 0 (putB D)]) w' := by
  subst hk
  obtain ⟨v, d, k1, k2, k3, k4, k5⟩ := h
  have hl : d.length = S.length := by have := congrArg List.length k4; simpa using this
  refine (image_add num A n c D v d code gl gf W0.heap.size w k1 k2 k3 k5.size hD hn (by omega)).mono ?_
  rintro e w' ⟨rfl, v', A', c', p1, p2, p3, p4⟩
  exact ⟨rfl, v', _, p1, p2, p3, by rw [List.map_append, k4, List.map_append]; rfl, p4.ext0 k5 h1 h2 k3.row⟩
theorem recP_eq {k : Nat} {l : List (List FV)} (h : ∀ r ∈ l, fmay r = 0) : (l.map fun r => tfv k 2 0 (putB r)) = recF k l := by
  unfold recF
  exact List.map_congr_left fun r hr => by rw [putB_ok (h r hr)]
/-- what image.Put leaves -/
def PutPost (ver : Int) (s : KV) (x : XV) (w : World) (e : Ending) (w' : World) : Prop :=
  ∃ v, e = .returned (.tuple #[v, .int .i64 ((kput ver s x.more x.top).2 : Nat)]) ∧ w'.ownsRow w.heap.size 5 1 v (kput ver s x.more x.top).1.length ((kput ver s x.more x.top).1.map bv) ∧ Ext w w'

set_option maxRecDepth 100000 in
set_option maxHeartbeats 1600000 in
theorem image_Put_ver (s : KV) (x : XV) (ver : Int) (w : World) (hv : inI ver 1 3 = false) :
    Calls Tryz.prog 10 #[s.val, x.val, .int .i64 ver] w (PutPost ver s x w) := by
  have HE : Hid (∀ (W : World) (e : Ending), PutPost ver s x w e W ↔ ∃ v, e = .returned (.tuple #[v, .int .i64 ((kput ver s x.more x.top).2 : Nat)]) ∧ W.ownsRow w.heap.size 5 1 v (kput ver s x.more x.top).1.length ((kput ver s x.more x.top).1.map bv) ∧ Ext w W) := Lib.hid fun _ _ => Iff.rfl
  have hk : kput ver s x.more x.top = ([], 1) := by
    have h1 : kmay s ver = 1 := by unfold kmay; rw [if_pos hv]
    unfold kput; rw [if_pos (by rw [h1]; decide), h1]
  rw [hk] at HE
  clear hk
  unfold KV.val XV.val
  have hh : ver < 1 ∨ 3 < ver := by
    by_cases h1 : 1 ≤ ver
    · by_cases h3 : ver ≤ 3
      · rw [inI_t h1 h3] at hv; cases hv
      · omega
    · omega
  clear hv
  rcases hh with h | h
  · go_enter Tryz.func10, Tryz.ntmps10
    go_wp2_with fail
    go_ret2
    exact (HE.out _ _).2 ⟨_, rfl, World.ownsRow_nil _ _ _ _, ((Ext.refl w).alloc _).alloc _⟩
  · have h' : ¬ ver < 1 := by omega
    go_enter Tryz.func10, Tryz.ntmps10
    go_wp2_with fail
    go_ret2
    exact (HE.out _ _).2 ⟨_, rfl, World.ownsRow_nil _ _ _ _, ((Ext.refl w).alloc _).alloc _⟩

set_option maxRecDepth 100000 in
set_option maxHeartbeats 6400000 in
theorem image_Put_in (s : KV) (x : XV) (ver : Int) (w : World) (hs : s.Ok w) (hx : x.Ok w) (fs : s.Few) (fx : x.Few) (hv : inI ver 1 3 = true) :
    Calls Tryz.prog 10 #[s.val, x.val, .int .i64 ver] w (PutPost ver s x w) := by
  have HE : Hid (∀ (W : World) (e : Ending), PutPost ver s x w e W ↔ ∃ v, e = .returned (.tuple #[v, .int .i64 ((kput ver s x.more x.top).2 : Nat)]) ∧ W.ownsRow w.heap.size 5 1 v (kput ver s x.more x.top).1.length ((kput ver s x.more x.top).1.map bv) ∧ Ext w W) := Lib.hid fun _ _ => Iff.rfl
  obtain ⟨hv1, hv3⟩ := inI_iff.1 hv
  have HK : Hid (kput ver s x.more x.top = if kmay s ver ≠ 0 then ([], kmay s ver) else if badRest ver s x.more x.top = true then ([], 6) else
    if firstE (snpsF ver s.sns x.more) ≠ 0 then ([], firstE (snpsF ver s.sns x.more)) else
    if fmay (stF ver s x.more x.top) = 0 then (rput (stF ver s x.more x.top), 0) else ([], fmay (stF ver s x.more x.top))) := Lib.hid rfl
  generalize kput ver s x.more x.top = KP at *
  generalize PutPost ver s x w = POST at *
  have HM := Lib.hid (fun (W : World) (h : Ext w W) => st_May s ver W (hs.ext h) fs.n1 fs.n2 fs.n3 fs.ch)
  have HFT := Lib.hid (fun (W : World) (h : Ext w W) => image_fits s x ver _ rfl W (hs.ext h) (hx.ext h) fx fs.n3)
  have HKM := Lib.hid (fun h => kmay_parts (s := s) (v := ver) h)
  have HBP := Lib.hid (fun h => bad_parts (v := ver) (s := s) (more := x.more) (top := x.top) h)
  have HSO := Lib.hid hs
  have HXO := Lib.hid hx
  have HFX := Lib.hid fx
  have HSTF : Hid (stF ver s x.more x.top = numF 1 [s.ver, s.next, s.keep] ++ (recF 4 (s.ses.map sesF) ++ (recF 5 (s.ops.map opnF) ++ (recF 6 (snpsF ver s.sns x.more) ++ ((if 3 ≤ ver ∧ s.quota ≠ 0 then [tfv 7 0 s.quota.toNat []] else []) ++ x.top))))) := Lib.hid rfl
  generalize stF ver s x.more x.top = ST at *
  generalize kmay s ver = km at *
  generalize badRest ver s x.more x.top = bd at *
  clear hs hx fs fx hv
  unfold KV.val at HM HFT ⊢
  unfold XV.val at HFT ⊢
  have hB0 := (Blk.new w 29 [.int .i64 s.ver, .int .i64 s.next, .int .i64 s.keep, .int .i64 s.quota, .slice s.A1 s.n1 s.c1, .slice s.A2 s.n2 s.c2, .slice s.A3 s.n3 s.c3]).alloc (.cells #[.slice x.A1 x.n1 x.c1, .slice x.A2 x.n2 x.c2] 33)
  have hR0 := Blk.new (w.alloc (.cells #[.int .i64 s.ver, .int .i64 s.next, .int .i64 s.keep, .int .i64 s.quota, .slice s.A1 s.n1 s.c1, .slice s.A2 s.n2 s.c2, .slice s.A3 s.n3 s.c3] 29)) 33 [.slice x.A1 x.n1 x.c1, .slice x.A2 x.n2 x.c2]
  have xa : Ext w ((w.alloc (.cells #[.int .i64 s.ver, .int .i64 s.next, .int .i64 s.keep, .int .i64 s.quota, .slice s.A1 s.n1 s.c1, .slice s.A2 s.n2 s.c2, .slice s.A3 s.n3 s.c3] 29)).alloc (.cells #[.slice x.A1 x.n1 x.c1, .slice x.A2 x.n2 x.c2] 33)) := ((Ext.refl w).alloc _).alloc _
  rw [show (w.alloc (.cells #[.int .i64 s.ver, .int .i64 s.next, .int .i64 s.keep, .int .i64 s.quota, .slice s.A1 s.n1 s.c1, .slice s.A2 s.n2 s.c2, .slice s.A3 s.n3 s.c3] 29)).heap.size = w.heap.size + 1 by simp] at hR0
  have h1' : ¬ ver < 1 := by omega
  have h3' : ¬ 3 < ver := by omega
  go_enter Tryz.func10, Tryz.ntmps10
  go_wp2_with fail
  refine (HM.out _ xa).mono ?_
  rintro e w1 ⟨rfl, x1⟩
  replace xa := xa.trans x1
  replace hB0 := hB0.ext x1
  replace hR0 := hR0.ext x1
  clear HM x1
  by_cases hkm : km = 0
  case neg =>
    have hb := bne_t (show ((km : Nat) : Int) ≠ 0 by omega)
    have HKP : Hid (KP = ([], km)) := Lib.hid (by rw [HK.out, if_pos hkm])
    clear hkm HK hB0 hR0
    go_wp2_with fail
    exact (HE.out _ _).2 ⟨.slice none 0 0, by rw [HKP.out]; rfl, by rw [HKP.out]; exact World.ownsRow_nil _ _ _ _, xa⟩
  case pos =>
    have HP := Lib.hid (HKM.out hkm)
    subst hkm
    have HK2 : Hid (KP = if bd = true then ([], 6) else if firstE (snpsF ver s.sns x.more) ≠ 0 then ([], firstE (snpsF ver s.sns x.more)) else if fmay ST = 0 then (rput ST, 0) else ([], fmay ST)) := Lib.hid (by rw [HK.out, if_neg (by simp)])
    clear HK HKM
    have d0 := hB0.cell 0
    have d1 := hB0.cell 1
    have d2 := hB0.cell 2
    have d3 := hB0.cell 3
    have d4 := hB0.cell 4
    have d5 := hB0.cell 5
    have d6 := hB0.cell 6
    have r0 := hR0.cell 0
    have r1 := hR0.cell 1
    simp only [List.getElem?_cons_zero, List.getElem?_cons_succ] at d0 d1 d2 d3 d4 d5 d6 r0 r1
    go_wp2_with fail
    refine (HFT.out _ xa).mono ?_
    rintro e w2 ⟨rfl, x2⟩
    replace xa := xa.trans x2
    replace hB0 := hB0.ext x2
    replace hR0 := hR0.ext x2
    clear HFT x2 d0 d1 d2 d3 d4 d5 d6 r0 r1
    rcases bd with _ | _
    case true =>
      have HKP : Hid (KP = ([], 6)) := Lib.hid (by rw [HK2.out, if_pos rfl])
      clear HK2 hB0 hR0
      go_wp2_with fail
      exact (HE.out _ _).2 ⟨.slice none 0 0, by rw [HKP.out]; rfl, by rw [HKP.out]; exact World.ownsRow_nil _ _ _ _, xa⟩
    case false =>
      have HBD := Lib.hid (HBP.out rfl)
      have HK3 : Hid (KP = if firstE (snpsF ver s.sns x.more) ≠ 0 then ([], firstE (snpsF ver s.sns x.more)) else if fmay ST = 0 then (rput ST, 0) else ([], fmay ST)) := Lib.hid (by rw [HK2.out, if_neg (by simp)])
      clear HK2 HBP
      have d0 := hB0.cell 0
      have d1 := hB0.cell 1
      have d2 := hB0.cell 2
      simp only [List.getElem?_cons_zero, List.getElem?_cons_succ] at d0 d1 d2
      have hgs : w.heap.size < w2.heap.size := hB0.lt
      have HNUM := Lib.hid (st_nums HP.out)
      go_wp2_with fail
      refine (image_numbers _ _ _ [s.ver, s.next, s.keep] _ (is_lit w2 [s.ver, s.next, s.keep] _ _ 3 _ rfl rfl (by simp)) (by omega) HNUM.out).mono ?_
      rintro e w3 ⟨v3, rfl, hown3, x3⟩
      obtain ⟨A3, c3, rfl, _⟩ := own_form hown3
      have y3 := ((Ext.refl w2).alloc (.cells #[.int .i64 s.ver, .int .i64 s.next, .int .i64 s.keep] 3)).trans x3
      have hR3 := numF_own (own_base (base' := w2.heap.size) hown3 (by simp)) HNUM.out
      have hN3 : (numF 1 [s.ver, s.next, s.keep]).length ≤ 3 := numF_len [s.ver, s.next, s.keep] 1
      generalize numF 1 [s.ver, s.next, s.keep] = N at *
      have HR3 := Lib.hid hR3
      clear x3 hown3 hR3 d0 d1 d2 HNUM
      go_upto_region 9 with fail
      have y4 : Ext w3 ((w3.alloc (.cells #[.slice A3 N.length c3] 30)).alloc (.cells #[.int .i64 0] 34)) := ((Ext.refl w3).alloc _).alloc _
      have hL := (Blk.new w3 30 [.slice A3 N.length c3]).alloc (.cells #[.int .i64 0] 34)
      have hF := Blk.new (w3.alloc (.cells #[.slice A3 N.length c3] 30)) 34 [.int .i64 0]
      rw [show (w3.alloc (.cells #[.slice A3 N.length c3] 30)).heap.size = w3.heap.size + 1 by simp] at hF
      generalize ((w3.alloc (.cells #[.slice A3 N.length c3] 30)).alloc (.cells #[.int .i64 0] 34)) = W4 at *
      have hR4 := HR3.out.ext y4
      have hx4 := y3.trans y4
      have hgl := y3.size
      generalize w3.heap.size = gl at hL hF hgl ⊢
      have hgf : w2.heap.size ≤ gl + 1 := by omega
      generalize gl + 1 = gf at hF hgf ⊢
      clear HR3 y3 y4
      have hB4 := hB0.ext hx4
      have d4 := hB4.cell 4
      simp only [List.getElem?_cons_zero, List.getElem?_cons_succ] at d4
      have HR4 := Lib.hid hR4
      have HX4 := Lib.hid hx4
      have HLF := Lib.hid (And.intro hL hF)
      have HB4 := Lib.hid hB0
      have HRR := Lib.hid hR0
      clear hR4 hx4 hL hF hB4 hB0 hR0
      have HA4 : Hid (AddI gl gf w2 0 N W4) := Lib.hid ⟨_, _, HLF.out.1, HLF.out.2, HR4.out, rfl, HX4.out⟩
      clear HR4 HLF
      have t1 := HSO.out.t1.ext xa
      have hn1 : s.ses.length = s.n1 := t1.len
      have hm1 := HP.out.nses
      go_wp2_with fail
      go_loopw [48] (fun i wr => ∃ j : Nat, i = .int .i64 j ∧ j ≤ s.n1 ∧ AddI gl gf w2 0 (N ++ recF 4 ((s.ses.take j).map sesF)) wr) (fun i _ => s.n1 - (intOf i).toNat)
      case atStart => exact ⟨0, rfl, by omega, HA4.out.cast rfl (by simp [recF])⟩
      case round =>
        clear HA4 d4
        obtain ⟨j, rfl, hj, hA⟩ := hrel
        by_cases hjn : j < s.n1
        · have hjl : j < s.ses.length := by omega
          obtain ⟨bb, off, e1, _, hc⟩ := (t1.ext hA.x).at_ hjn
          have hcl := HP.out.ses s.ses[j] (List.getElem_mem _)
          have Hsn := Lib.hid (map_take sesF s.ses j hjl)
          have HMY := Lib.hid (ses_may HP.out (List.getElem_mem hjl))
          have HNM := Lib.hid (ses_nums HP.out (List.getElem_mem hjl))
          generalize s.ses[j] = f at *
          generalize s.A1 = A1 at *
          subst e1
          have c0 : wr.cell? ⟨bb, off + j * 4, none⟩ = some (.int .i64 f.client) := hc 0 (by omega)
          have c1 : wr.cell? ⟨bb, off + j * 4 + 1, none⟩ = some (.int .i64 f.seq) := hc 1 (by omega)
          have c2 : wr.cell? ⟨bb, off + j * 4 + 2, none⟩ = some (.int .i64 f.code) := hc 2 (by omega)
          have c3' : wr.cell? ⟨bb, off + j * 4 + 3, none⟩ = some (.int .i64 f.n) := hc 3 (by omega)
          have hj0 : (0 : Int) ≤ j := by omega
          have hj1 : (j : Int) < s.n1 := by omega
          have HA := Lib.hid hA
          clear hc hA
          have hlenS : (N ++ recF 4 ((s.ses.take j).map sesF)).length ≤ 100 := by rw [List.length_append, recF_len, List.length_map, List.length_take]; omega
          go_wp2_with fail
          refine (image_numbers _ _ _ [f.client, f.seq, f.code, f.n] _ (is_lit (wr.alloc (.cells #[.int .i64 f.client, .int .i64 f.seq, .int .i64 f.code, .int .i64 f.n] 63)) [f.client, f.seq, f.code, f.n] _ _ 4 _ rfl rfl (by simp)) (by omega) HNM.out).mono ?_
          rintro e w5 ⟨v5, rfl, hown5, x5⟩
          obtain ⟨A5, c5, rfl, _⟩ := own_form hown5
          have y5 : Ext wr w5 := (((Ext.refl wr).alloc (.cells #[.int .i64 f.client, .int .i64 f.seq, .int .i64 f.code, .int .i64 f.n] 63)).alloc (.cells #[.int .i64 f.client, .int .i64 f.seq, .int .i64 f.code, .int .i64 f.n] 3)).trans x5
          have HI := Lib.hid (image_addI 4 4 rfl A5 (numF 1 [f.client, f.seq, f.code, f.n]).length c5 (sesF f) 0 gl gf w2 _ w5 (HA.out.ext y5) hgl hgf (numF_fs hown5 HNM.out) (by have := numF_len [f.client, f.seq, f.code, f.n] 1; simp at this; omega) (by omega))
          rw [if_pos rfl, HMY.out.1, putB_ok HMY.out.1] at HI
          clear hown5 x5 y5 HA c0 c1 c2 c3'
          go_wp2_with fail
          refine HI.out.mono ?_
          rintro e w6 ⟨rfl, hA6⟩
          have HA6 := Lib.hid hA6
          clear hA6 HI
          go_wp2_with fail
          go_roundw
          case rel => exact ⟨j + 1, val_int (by omega), by omega, HA6.out.cast rfl (by rw [Hsn.out, recF_snoc, List.append_assoc])⟩
          case measure => simp [intOf]; omega
        · obtain rfl : s.n1 = j := by omega
          obtain ⟨wa, rfl⟩ : ∃ wo : World, wo = wr := ⟨_, rfl⟩
          rw [List.take_of_length_le (by omega)] at hA
          have hxa := hA.x
          have hB5 := HB4.out.ext hxa
          have d5 := hB5.cell 5
          simp only [List.getElem?_cons_zero, List.getElem?_cons_succ] at d5
          have t2 := HSO.out.t2.ext xa
          have hn2 : s.ops.length = s.n2 := t2.len
          have hm2 := HP.out.nops
          have HA5 := Lib.hid hA
          have hlN : (N ++ recF 4 (s.ses.map sesF)).length ≤ 11 := by rw [List.length_append, recF_len, List.length_map]; omega
          have HST5 : Hid (ST = (N ++ recF 4 (s.ses.map sesF)) ++ (recF 5 (s.ops.map opnF) ++ (recF 6 (snpsF ver s.sns x.more) ++ ((if 3 ≤ ver ∧ s.quota ≠ 0 then [tfv 7 0 s.quota.toNat []] else []) ++ x.top)))) := Lib.hid (by rw [HSTF.out]; simp only [List.append_assoc])
          generalize N ++ recF 4 (s.ses.map sesF) = N5 at *
          clear hA hB5 hxa t1 HSTF hN3
          go_wp2_with fail
          go_loopw [70] (fun i wr => ∃ j : Nat, i = .int .i64 j ∧ j ≤ s.n2 ∧ AddI gl gf w2 0 (N5 ++ recF 5 ((s.ops.take j).map opnF)) wr) (fun i _ => s.n2 - (intOf i).toNat)
          case atStart => exact ⟨0, rfl, by omega, HA5.out.cast rfl (by simp [recF])⟩
          case round =>
            clear HA5 d5
            obtain ⟨j, rfl, hj, hA⟩ := hrel
            by_cases hjn : j < s.n2
            · have hjl : j < s.ops.length := by omega
              obtain ⟨bb, off, e1, _, hc⟩ := (t2.ext hA.x).at_ hjn
              have Hsn := Lib.hid (map_take opnF s.ops j hjl)
              have HMY := Lib.hid (opn_may HP.out (List.getElem_mem hjl))
              have HNM := Lib.hid (opn_nums HP.out (List.getElem_mem hjl))
              generalize s.ops[j] = f at *
              generalize s.A2 = A1 at *
              subst e1
              have c0 : wr.cell? ⟨bb, off + j * 2, none⟩ = some (.int .i64 f.set) := hc 0 (by omega)
              have c1 : wr.cell? ⟨bb, off + j * 2 + 1, none⟩ = some (.int .i64 f.client) := hc 1 (by omega)
              have hj0 : (0 : Int) ≤ j := by omega
              have hj1 : (j : Int) < s.n2 := by omega
              have HA := Lib.hid hA
              clear hc hA
              have hlenS : (N5 ++ recF 5 ((s.ops.take j).map opnF)).length ≤ 100 := by rw [List.length_append, recF_len, List.length_map, List.length_take]; omega
              go_wp2_with fail
              refine (image_numbers _ _ _ [f.set, f.client] _ (is_lit (wr.alloc (.cells #[.int .i64 f.set, .int .i64 f.client] 65)) [f.set, f.client] _ _ 2 _ rfl rfl (by simp)) (by omega) HNM.out).mono ?_
              rintro e w5 ⟨v5, rfl, hown5, x5⟩
              obtain ⟨A5, c5, rfl, _⟩ := own_form hown5
              have y5 : Ext wr w5 := (((Ext.refl wr).alloc (.cells #[.int .i64 f.set, .int .i64 f.client] 65)).alloc (.cells #[.int .i64 f.set, .int .i64 f.client] 3)).trans x5
              have HI := Lib.hid (image_addI 5 5 rfl A5 (numF 1 [f.set, f.client]).length c5 (opnF f) 0 gl gf w2 _ w5 (HA.out.ext y5) hgl hgf (numF_fs hown5 HNM.out) (by have := numF_len [f.set, f.client] 1; simp at this; omega) (by omega))
              rw [if_pos rfl, HMY.out.1, putB_ok HMY.out.1] at HI
              clear hown5 x5 y5 HA c0 c1
              go_wp2_with fail
              refine HI.out.mono ?_
              rintro e w6 ⟨rfl, hA6⟩
              have HA6 := Lib.hid hA6
              clear hA6 HI
              go_wp2_with fail
              go_roundw
              case rel => exact ⟨j + 1, val_int (by omega), by omega, HA6.out.cast rfl (by rw [Hsn.out, recF_snoc, List.append_assoc])⟩
              case measure => simp [intOf]; omega
            · obtain rfl : s.n2 = j := by omega
              obtain ⟨wb, rfl⟩ : ∃ wo : World, wo = wr := ⟨_, rfl⟩
              rw [List.take_of_length_le (by omega)] at hA
              have hxa := hA.x
              have hB6 := HB4.out.ext hxa
              have d6 := hB6.cell 6
              simp only [List.getElem?_cons_zero, List.getElem?_cons_succ] at d6
              have t3 := HSO.out.t3.ext xa
              have hn3 : s.sns.length = s.n3 := t3.len
              have hm3 := HP.out.nsns
              have HA6 := Lib.hid hA
              have hlN6 : (N5 ++ recF 5 (s.ops.map opnF)).length ≤ 19 := by rw [List.length_append, recF_len, List.length_map]; omega
              have HST6 : Hid (ST = (N5 ++ recF 5 (s.ops.map opnF)) ++ (recF 6 (snpsF ver s.sns x.more) ++ ((if 3 ≤ ver ∧ s.quota ≠ 0 then [tfv 7 0 s.quota.toNat []] else []) ++ x.top))) := Lib.hid (by rw [HST5.out]; simp only [List.append_assoc])
              generalize N5 ++ recF 5 (s.ops.map opnF) = N6 at *
              clear hA hB6 hxa t2 HST5 hlN
              have HT2 := Lib.hid (HXO.out.t2.ext xa)
              have hm2' : x.sns.length = x.n2 := HXO.out.t2.len
              have hmo : ∀ j, j < x.n2 → ∀ h : j < x.sns.length, x.more[j]?.getD [] = x.sns[j].l := fun j _ h => by unfold XV.more; rw [List.getElem?_map, List.getElem?_eq_getElem h]; rfl
              have hmo2 : ∀ j, ¬ j < x.n2 → x.more[j]?.getD [] = [] := fun j h => by unfold XV.more; rw [List.getElem?_eq_none (by rw [List.length_map]; omega)]; rfl
              have HMO := Lib.hid hmo
              have HMO2 := Lib.hid hmo2
              clear hmo hmo2
              go_wp2_with fail
              go_loopw [86] (fun i wr => ∃ j : Nat, i = .int .i64 j ∧ j ≤ s.n3 ∧ AddI gl gf w2 (firstE ((snpsF ver (s.sns.take j) x.more))) (N6 ++ (snpsF ver (s.sns.take j) x.more).map fun r => tfv 6 2 0 (putB r)) wr) (fun i _ => s.n3 - (intOf i).toNat)
              case atStart => exact ⟨0, rfl, by omega, HA6.out.cast rfl (by simp [snpsF])⟩
              case round =>
                clear HA6 d6
                obtain ⟨j, rfl, hj, hA⟩ := hrel
                by_cases hjn : j < s.n3
                · have hjl : j < s.sns.length := by omega
                  obtain ⟨bb, off, e1, _, hc⟩ := (t3.ext hA.x).at_ hjn
                  have hfo := (t3.ext hA.x).ok s.sns[j] (List.getElem_mem _)
                  have Hsn := Lib.hid (snpsF_take ver s.sns x.more j hjl)
                  have HPS := Lib.hid (HP.out.sns s.sns[j] (List.getElem_mem hjl))
                  have HNM := Lib.hid (snp_nums HP.out (List.getElem_mem hjl))
                  have hR6 := HRR.out.ext hA.x
                  have r1 := hR6.cell 1
                  simp only [List.getElem?_cons_zero, List.getElem?_cons_succ] at r1
                  generalize s.sns[j] = f at *
                  generalize s.A3 = A1 at *
                  subst e1
                  have c0 : wr.cell? ⟨bb, off + j * 5, none⟩ = some (.int .i64 f.id) := hc 0 (by omega)
                  have c1 : wr.cell? ⟨bb, off + j * 5 + 1, none⟩ = some (.int .i64 f.set) := hc 1 (by omega)
                  have c2 : wr.cell? ⟨bb, off + j * 5 + 2, none⟩ = some (.slice f.A f.len f.cap) := hc 2 (by omega)
                  have c3' : wr.cell? ⟨bb, off + j * 5 + 3, none⟩ = some (.bool f.held) := hc 3 (by omega)
                  have c4 : wr.cell? ⟨bb, off + j * 5 + 4, none⟩ = some (.string f.tag) := hc 4 (by omega)
                  have hj0 : (0 : Int) ≤ j := by omega
                  have hj1 : (j : Int) < s.n3 := by omega
                  have HA := Lib.hid hA
                  have HFO := Lib.hid hfo
                  have hlenS : (N6 ++ (snpsF ver (s.sns.take j) x.more).map fun r => tfv 6 2 0 (putB r)).length ≤ 100 := by rw [List.length_append, List.length_map, snpsF_len, List.length_take]; omega
                  clear hc hfo hR6
                  have HR1 := Lib.hid r1
                  by_cases hjx : j < x.n2
                  case' pos =>
                    have hjxl : j < x.sns.length := by omega
                    obtain ⟨b2, off2, e2, hq⟩ := Wss.cell (HT2.out.ext HA.out.x) hjx hjxl
                    have hgo := (HT2.out.ext HA.out.x).ok x.sns[j] (List.getElem_mem _)
                    have hgl18 := HFX.out.ln x.sns[j] (List.getElem_mem _)
                    have HLR0 := Lib.hid (HMO.out j hjx hjxl)
                    rw [e2] at r1
                    have hj2 : (j : Int) < x.n2 := by omega
                    generalize x.sns[j] = g at *
                    obtain ⟨LR, hLR⟩ : ∃ l, l = g.l := ⟨_, rfl⟩
                    have HLR : Hid (x.more[j]?.getD [] = LR) := Lib.hid (by rw [HLR0.out, hLR])
                    have HSN : Hid (∀ W, Ext wr W → Calls Tryz.prog 34 #[.agg #[.int .i64 f.id, .int .i64 f.set, .slice f.A f.len f.cap, .bool f.held, .string f.tag], .slice g.A g.len g.cap, .int .i64 ver] W (SnapPost ver f LR g.len W)) :=
                      Lib.hid (fun W h => by rw [hLR]; exact image_snap f ver g.A g.len g.cap g.l W (HFO.out.ext h) HPS.out.2.2.1 HNM.out HPS.out.2.2.2.2.1 (hgo.fs.ext h) hgl18)
                    have hll : g.len ≤ 18000 := hgl18
                    clear HLR0 hLR hgo e2 hgl18 hjx HR1
                    go_upto_region 24 with fail
                    have r1' := Ext.cell ((Ext.refl wr).alloc (.cells #[.int .i64 f.id, .int .i64 f.set, .slice f.A f.len f.cap, .bool f.held, .string f.tag] 70)) r1
                    have hq' := Ext.cell ((Ext.refl wr).alloc (.cells #[.int .i64 f.id, .int .i64 f.set, .slice f.A f.len f.cap, .bool f.held, .string f.tag] 70)) hq
                    go_upto_region 26 with fail
                    clear r1' hq' hq
                    generalize g.len = gln at *
                  case' neg =>
                    have hj2 : decide (j < x.n2) = false := dec_f hjx
                    obtain ⟨LR, hLR⟩ : ∃ l : List FV, l = [] := ⟨_, rfl⟩
                    obtain ⟨gln, hgln⟩ : ∃ k : Nat, k = 0 := ⟨_, rfl⟩
                    have hll : gln ≤ 18000 := by omega
                    have HLR : Hid (x.more[j]?.getD [] = LR) := Lib.hid (by rw [HMO2.out j hjx, hLR])
                    have HSN : Hid (∀ W, Ext wr W → Calls Tryz.prog 34 #[.agg #[.int .i64 f.id, .int .i64 f.set, .slice f.A f.len f.cap, .bool f.held, .string f.tag], .slice none 0 0, .int .i64 ver] W (SnapPost ver f LR gln W)) :=
                      Lib.hid (fun W h => by rw [hLR, hgln]; exact image_snap f ver none 0 0 [] W (HFO.out.ext h) HPS.out.2.2.1 HNM.out HPS.out.2.2.2.2.1 (Fs.nil_ _ _) (by omega))
                    clear hLR hjx HR1 hgln
                    go_upto_region 24 with fail
                    have r1' := Ext.cell ((Ext.refl wr).alloc (.cells #[.int .i64 f.id, .int .i64 f.set, .slice f.A f.len f.cap, .bool f.held, .string f.tag] 70)) r1
                    go_upto_region 26 with fail
                    clear r1'
                  all_goals
                    have y4 : Ext wr (wr.alloc (.cells #[.int .i64 f.id, .int .i64 f.set, .slice f.A f.len f.cap, .bool f.held, .string f.tag] 70)) := (Ext.refl wr).alloc _
                    have HSN2 := Lib.hid (HSN.out _ y4)
                    clear HSN c0 c1 c2 c3' c4 r1 HFO HPS HNM
                    go_wp2_with fail
                    refine HSN2.out.mono ?_
                    rintro e w5 ⟨A5, n5, c5, D, rfl, hD, hDs, hn5, x5⟩
                    have HI : Hid (Calls Tryz.prog 31 #[.int .i64 6, .slice A5 n5 c5, .pointer (some ⟨gf, 0, none⟩), .pointer (some ⟨gl, 0, none⟩)] w5 fun e w' => e = .returned (.tuple #[]) ∧ AddI gl gf w2 (firstE (snpsF ver (s.sns.take (j + 1)) x.more)) (N6 ++ (snpsF ver (s.sns.take (j + 1)) x.more).map fun r => tfv 6 2 0 (putB r)) w') := Lib.hid (by
                      have h := image_addI 6 6 rfl A5 n5 c5 D (firstE (snpsF ver (s.sns.take j) x.more)) gl gf w2 _ w5 (HA.out.ext (y4.trans x5)) hgl hgf hD (by omega) (by omega)
                      rw [Hsn.out, HLR.out, firstE_snoc, List.map_append, ← s_may hDs, ← List.append_assoc]
                      have e2 : putB (snpF ver f LR) = putB D := by unfold putB; rw [s_may hDs, s_rput hDs]
                      rw [List.map_cons, List.map_nil, e2]
                      exact h)
                    clear hD hDs hn5 x5 HSN2 y4 HA
                    go_wp2_with fail
                    refine HI.out.mono ?_
                    rintro e w6 ⟨rfl, hA6⟩
                    have HA6 := Lib.hid hA6
                    clear hA6 HI
                    go_wp2_with fail
                    go_roundw
                    case rel => exact ⟨j + 1, val_int (by omega), by omega, HA6.out⟩
                    case measure => simp [intOf]; omega
                · obtain rfl : s.n3 = j := by omega
                  obtain ⟨wc, rfl⟩ : ∃ wo : World, wo = wr := ⟨_, rfl⟩
                  rw [List.take_of_length_le (by omega)] at hA
                  have HFZ := Lib.hid (fun h => firstE_zero (l := snpsF ver s.sns x.more) |>.1 h)
                  have hlen7 : (N6 ++ (snpsF ver s.sns x.more).map fun r => tfv 6 2 0 (putB r)).length ≤ 35 := by rw [List.length_append, List.length_map, snpsF_len]; omega
                  have HRP : Hid ((∀ r ∈ snpsF ver s.sns x.more, fmay r = 0) → ((snpsF ver s.sns x.more).map fun r => tfv 6 2 0 (putB r)) = recF 6 (snpsF ver s.sns x.more)) := Lib.hid recP_eq
                  generalize firstE (snpsF ver s.sns x.more) = fE at *
                  have hxc := hA.x
                  have hB7 := HB4.out.ext hxc
                  have hR7 := HRR.out.ext hxc
                  clear t3 HMO HMO2 HT2
                  by_cases hfe : fE = 0
                  · have HZ := Lib.hid (HFZ.out hfe)
                    have HP6 := Lib.hid (HRP.out HZ.out)
                    subst hfe
                    rw [HP6.out] at hA hlen7
                    have HK4 : Hid (KP = if fmay ST = 0 then (rput ST, 0) else ([], fmay ST)) := Lib.hid (by rw [HK3.out, if_neg (by simp)])
                    have HST7 : Hid (ST = (N6 ++ recF 6 (snpsF ver s.sns x.more)) ++ ((if 3 ≤ ver ∧ s.quota ≠ 0 then [tfv 7 0 s.quota.toNat []] else []) ++ x.top)) := Lib.hid (by rw [HST6.out, List.append_assoc])
                    generalize N6 ++ recF 6 (snpsF ver s.sns x.more) = N7 at *
                    clear HK3 HZ HP6 HFZ HRP HST6
                    obtain ⟨v7, d7, hL, hF, hR, hs7, hx7⟩ := hA
                    have hdl : d7.length = N7.length := by have := congrArg List.length hs7; simpa using this
                    have hd7 : d7.length ≤ 35 := by omega
                    have HS7 := Lib.hid hs7
                    have f0 := hF.cell 0
                    have d3 := hB7.cell 3
                    simp only [List.getElem?_cons_zero, List.getElem?_cons_succ] at f0 d3
                    clear hs7 hdl
                    have hsc := hx7.size
                    have hqn := HP.out.quota
                    have h3c : ver < 3 ∨ (3 ≤ ver ∧ s.quota = 0) ∨ (3 ≤ ver ∧ s.quota ≠ 0) := by omega
                    rcases h3c with h3 | ⟨h3, hq0⟩ | ⟨h3, hq0⟩
                    case' inl =>
                      have h3d := dec_f (show ¬ 3 ≤ ver by omega)
                      have HQ : Hid (ST = N7 ++ ([] ++ x.top)) := Lib.hid (by rw [HST7.out, if_neg (by omega)])
                      clear HST7 hB7 h3
                      go_upto_region 32 with fail
                      clear h3d d3 f0
                      have HSS : Hid (d7.map FV.s = (N7 ++ []).map FV.s) := Lib.hid (by rw [List.append_nil]; exact HS7.out)
                      have hdd : d7.length ≤ 36 := by omega
                      generalize ([] : List FV) = Q at HQ HSS
                      have hLd := hL
                      have hRd := hR
                      have hxd := hx7
                      clear hL hR hx7 HS7 hd7 hF hR7 hsc
                      obtain ⟨wd, rfl⟩ : ∃ wo : World, wo = wc := ⟨_, rfl⟩
                      obtain ⟨vd, rfl⟩ : ∃ vo : Value, vo = v7 := ⟨_, rfl⟩
                      obtain ⟨dd, rfl⟩ : ∃ vo : List FV, vo = d7 := ⟨_, rfl⟩
                    case' inr.inl =>
                      have h3d := dec_t h3
                      have hqb := bne_f hq0
                      have HQ : Hid (ST = N7 ++ ([] ++ x.top)) := Lib.hid (by rw [HST7.out, if_neg (fun k => k.2 hq0)])
                      clear HST7 hB7 h3 hq0
                      go_upto_region 32 with fail
                      clear h3d hqb d3 f0
                      have HSS : Hid (d7.map FV.s = (N7 ++ []).map FV.s) := Lib.hid (by rw [List.append_nil]; exact HS7.out)
                      have hdd : d7.length ≤ 36 := by omega
                      generalize ([] : List FV) = Q at HQ HSS
                      have hLd := hL
                      have hRd := hR
                      have hxd := hx7
                      clear hL hR hx7 HS7 hd7 hF hR7 hsc
                      obtain ⟨wd, rfl⟩ : ∃ wo : World, wo = wc := ⟨_, rfl⟩
                      obtain ⟨vd, rfl⟩ : ∃ vo : Value, vo = v7 := ⟨_, rfl⟩
                      obtain ⟨dd, rfl⟩ : ∃ vo : List FV, vo = d7 := ⟨_, rfl⟩
                    case' inr.inr =>
                      have h3d := dec_t h3
                      have hqb := bne_t hq0
                      have HQ : Hid (ST = N7 ++ ([tfv 7 0 s.quota.toNat []] ++ x.top)) := Lib.hid (by rw [HST7.out, if_pos ⟨h3, hq0⟩])
                      obtain ⟨qn, hqq⟩ : ∃ k : Nat, s.quota = k := ⟨s.quota.toNat, by omega⟩
                      have hqu : U64 qn := by unfold U64; omega
                      have HNB := Lib.hid (image_number 7 qn s.quota hqq hqu wc.drew)
                      have l0 := hL.cell 0
                      simp only [List.getElem?_cons_zero] at l0
                      clear HST7 h3 hq0
                      go_upto_region 31 with fail
                      clear h3d hqb f0
                      have HR8 := Lib.hid hR
                      have HL8 := Lib.hid hL
                      have HX8 := Lib.hid hx7
                      have HQN : Hid ((⟨7, 0, qn, none, 0, 0, []⟩ : FV).s = (tfv 7 0 s.quota.toNat []).s) := Lib.hid (by rw [hqq]; rfl)
                      have HU := Lib.hid hqu
                      clear hR hL hx7 hF hB7 hR7 hqq hqu
                      go_region_law (first
                        | (refine step_app fieldsT (by omega) _ rfl rfl (by simp [Act.eval]) (own_ext (HR8.out.ext x3).row ((Ext.refl w3).alloc _)) (by simp [Act.eval]; rfl) (rd_new4 _ _ _ _ _ _) (fcells_one _ _ _ _ _ _) (by unfold maxLen; omega) (by omega) (by simp; omega) ?_; intro v6 w6 hown6 hg6 hat6; obtain ⟨A6, c6, rfl, _⟩ := own_form hown6; have hb6 := ((HL8.out.ext x3).ext ((Ext.refl w3).alloc (.cells #[.int .i64 7, .int .i64 0, .int .u64 qn, .slice none 0 0] 54))).grown hg6 (fun e => own_blk_ne (own_ext (HR8.out.ext x3).row ((Ext.refl w3).alloc (.cells #[.int .i64 7, .int .i64 0, .int .u64 qn, .slice none 0 0] 54))) ((HL8.out.ext x3).ext ((Ext.refl w3).alloc (.cells #[.int .i64 7, .int .i64 0, .int .u64 qn, .slice none 0 0] 54))) (by decide) e.symm); have e6 := hb6.cell 0; have z6 := hb6.frozen 0; simp only [List.getElem?_cons_zero] at e6)
                        | (go_simp; go_at_call 35; refine HNB.out.mono ?_; rintro e w3 ⟨rfl, x3'⟩; have x3 := ((Ext.refl wc).drew).trans x3'; clear x3'; have hs3 : w2.heap.size ≤ w3.heap.size := Nat.le_trans hsc x3.size; have l3 := x3.cell l0; have l3' := Ext.cell ((Ext.refl w3).alloc (.cells #[.int .i64 7, .int .i64 0, .int .u64 qn, .slice none 0 0] 54)) l3))
                      all_goals
                        have xal : Ext wc (w3.alloc (.cells #[.int .i64 7, .int .i64 0, .int .u64 qn, .slice none 0 0] 54)) := x3.alloc _
                        have hF8 : OwnF (w3.alloc (.cells #[.int .i64 7, .int .i64 0, .int .u64 qn, .slice none 0 0] 54)) w2.heap.size ⟨7, 0, qn, none, 0, 0, []⟩ := ⟨World.ownsRow_nil _ _ _ _, HU.out⟩
                        have hR9 := OwnR.app (f := ⟨7, 0, qn, none, 0, 0, []⟩) (HR8.out.ext xal) hF8 hg6 hown6
                        have hLd := hb6.set_ 0 (.slice A6 (d7.length + 1) c6)
                        simp only [List.set_cons_zero] at hLd
                        have hRd := hR9.far (i := 0) hb6 (by decide) (by decide) (.slice A6 (d7.length + 1) c6)
                        have hxd : Ext w2 (w6.setCell ⟨gl, 0, none⟩ (.slice A6 (d7.length + 1) c6)) := (Below.app (HX8.out.trans xal) hg6 (HX8.out.trans xal).size (HR8.out.ext xal).row (Nat.le_refl _)).setCell (p := ⟨gl, 0, none⟩) hgl _
                        have HSS : Hid ((d7 ++ [(⟨7, 0, qn, none, 0, 0, []⟩ : FV)]).map FV.s = (N7 ++ [tfv 7 0 s.quota.toNat []]).map FV.s) := Lib.hid (by rw [List.map_append, HS7.out, List.map_append, List.map_cons, HQN.out]; rfl)
                        have hdd : (d7 ++ [(⟨7, 0, qn, none, 0, 0, []⟩ : FV)]).length ≤ 36 := by rw [List.length_append]; simp; omega
                        generalize (d7 ++ [(⟨7, 0, qn, none, 0, 0, []⟩ : FV)]) = dd at *
                        generalize [tfv 7 0 s.quota.toNat []] = Q at HQ HSS
                        clear hown6 hg6 hat6 hb6 e6 z6 xal hF8 hR9 HR8 HL8 HX8 HQN HU x3 hs3 HS7 hd7 l0 d3 hsc
                        generalize w6.setCell ⟨gl, 0, none⟩ (.slice A6 (d7.length + 1) c6) = wd at *
                        generalize (Value.slice A6 (d7.length + 1) c6) = vd at *
                        go_upto_region 32 with fail
                    all_goals
                      have hrow := hRd.row
                      obtain ⟨Ad, cd, rfl, _⟩ := own_form hrow
                      have l9 := hLd.cell 0
                      have hR9 := HRR.out.ext hxd
                      have r9 := hR9.cell 0
                      simp only [List.getElem?_cons_zero] at l9 r9
                      have hft := HXO.out.t1.ext (xa.trans hxd)
                      have hn18 := HFX.out.n1
                      have hlt := hft.len
                      have hszd := hxd.size
                      have HRD := Lib.hid hRd
                      clear hLd hR9 hRd
                      go_wp2_with (at_builtin; refine wpList_app fieldsT (by omega) _ rfl rfl rfl hrow rfl hft.rd (rowOf_cells _) (by unfold maxLen; omega) (by omega) hszd ?_; intro v10 w10 hown10 hg10 hat10; have x10 := Below.app hxd hg10 hszd hrow (Nat.le_refl _); obtain ⟨A10, c10, rfl, _⟩ := own_form hown10)
                      have hfs : Fs w10 A10 (dd.length + x.n1) (dd ++ x.top) := by
                        refine Fs.of_own (own_to hown10 (Nat.le_refl _) rfl (by rw [rowOf_append])) ?_
                        intro g hg
                        rcases List.mem_append.1 hg with hg | hg
                        · exact ((HRD.out.own g hg).grown hrow hg10).ok
                        · exact (HXO.out.t1.ok g hg).ext (xa.trans x10)
                      have hs : (dd ++ x.top).map FV.s = ST.map FV.s := by rw [HQ.out, ← List.append_assoc, List.map_append, HSS.out, ← List.map_append]
                      have hm := s_may hs
                      have hp := s_rput hs
                      have Hlen : dd.length + x.n1 ≤ 20000 := by omega
                      have HX10 := Lib.hid (xa.trans x10)
                      clear hs hown10 hg10 hat10 hrow HRD x10 hft l9 r9 HSS HQ
                      generalize dd ++ x.top = D at *
                      by_cases hz : fmay D = 0
                      · have HZ := Lib.hid hz
                        have HKP : Hid (KP = (rput D, 0)) := Lib.hid (by rw [HK4.out, ← hm, if_pos hz, ← hp])
                        clear hz hm hp HK4
                        refine (tlv_Put_ok _ _ _ D _ hfs Hlen HZ.out).mono ?_
                        rintro e w11 ⟨v11, rfl, hown11, x11⟩
                        go_wp2_with fail
                        exact (HE.out _ _).2 ⟨v11, by rw [HKP.out]; rfl, by rw [HKP.out]; exact own_base hown11 HX10.out.size, HX10.out.trans x11⟩
                      · have HZ := Lib.hid hz
                        have HKP : Hid (KP = ([], fmay D)) := Lib.hid (by rw [HK4.out, ← hm, if_neg hz])
                        clear hz hm hp HK4
                        refine (tlv_Put_no _ _ _ D _ hfs Hlen HZ.out).mono ?_
                        rintro e w11 ⟨rfl, x11⟩
                        go_wp2_with fail
                        exact (HE.out _ _).2 ⟨.slice none 0 0, by rw [HKP.out]; rfl, by rw [HKP.out]; exact World.ownsRow_nil _ _ _ _, HX10.out.trans x11⟩
                  · have HKP : Hid (KP = ([], fE)) := Lib.hid (by rw [HK3.out, if_pos hfe])
                    have hb := bne_t (show ((fE : Nat) : Int) ≠ 0 by omega)
                    obtain ⟨v7, d7, hL, hF, hR, hs7, hx7⟩ := hA
                    have f0 := hF.cell 0
                    simp only [List.getElem?_cons_zero] at f0
                    clear hfe HK3 HFZ HRP hL hF hR hs7 HST6
                    go_wp2_with fail
                    go_quiet (fail)
                    go_wp2_with fail
                    exact (HE.out _ _).2 ⟨.slice none 0 0, by rw [HKP.out]; rfl, by rw [HKP.out]; exact World.ownsRow_nil _ _ _ _, Ext.drewN (xa.trans hx7) _⟩
/-- image.Put says what kput says -/
theorem image_Put (s : KV) (x : XV) (ver : Int) (w : World) (hs : s.Ok w) (hx : x.Ok w) (fs : s.Few) (fx : x.Few) :
    Calls Tryz.prog 10 #[s.val, x.val, .int .i64 ver] w (PutPost ver s x w) := by
  rcases hv : inI ver 1 3 with _ | _
  · exact image_Put_ver s x ver w hv
  · exact image_Put_in s x ver w hs hx fs fx hv
end Go.Proofs.YtiildgoaiookhaaGreat

/- The walks of own, short, shown of layer 10's laws. -/
namespace Go.Proofs.YtiildgoaiookhaaGreat
open Go.RowKit

theorem listsT : SliceT Tryz.prog 31 30 1 24 := .mk' Tryz.underlying31 (z := .slice none 0 0) (by kernel_rfl) rfl
/-- a list of fields of the call's own, whose bytes are older -/
structure LW (w0 w : World) (B : Nat) (x : WV) : Prop where
  row : w.ownsRow B 54 4 (.slice x.A x.len x.cap) x.len (rowOf x.l)
  ok : ∀ f ∈ x.l, f.Ok w0
theorem LW.ok_ {w0 w : World} {B : Nat} {x : WV} (h : LW w0 w B x) (he : Ext w0 w) : x.Ok w :=
  ⟨Fs.of_own h.row fun f hf => (h.ok f hf).ext he, (own_bounds h.row).1, (own_bounds h.row).2⟩
theorem LW.ext {w0 w w' : World} {B : Nat} {x : WV} (h : LW w0 w B x) (he : Ext w w') : LW w0 w' B x := ⟨own_ext h.row he, h.ok⟩
theorem LW.grown {w0 w w' : World} {B B' : Nat} {x : WV} {v : Value} {n : Nat} {xs : List Value} (h : LW w0 w B x) (hv : w.ownsRow B' 30 1 v n xs) (hg : w.grownBy w' v.ownBlock) : LW w0 w' B x :=
  ⟨own_grown h.row hg (own_apart h.row hv (by decide)), h.ok⟩
theorem LW.far {w0 w : World} {B g i : Nat} {x : WV} {l : List Value} (h : LW w0 w B x) (hb : Blk w g 33 l) (u : Value) : LW w0 (w.setCell ⟨g, i, none⟩ u) B x :=
  ⟨own_far' h.row (own_blk_ne h.row hb (by decide)) u, h.ok⟩
/-- a rest whose rows are the call's own -/
structure OwnY (w0 w : World) (B : Nat) (y : XV) : Prop where
  top : w.ownsRow B 54 4 (.slice y.A1 y.n1 y.c1) y.n1 (rowOf y.top)
  ok : ∀ f ∈ y.top, f.Ok w0
  row : w.ownsRow B 30 1 (.slice y.A2 y.n2 y.c2) y.n2 (thingsOf y.sns)
  lw : ∀ f ∈ y.sns, LW w0 w B f
theorem OwnY.ok_ {w0 w : World} {B : Nat} {y : XV} (h : OwnY w0 w B y) (he : Ext w0 w) : y.Ok w :=
  ⟨Fs.of_own h.top fun f hf => (h.ok f hf).ext he, (own_bounds h.top).1, (own_bounds h.top).2, Ts.of_own h.row (fun f hf => (h.lw f hf).ok_ he) (by omega), (own_bounds h.row).1, (own_bounds h.row).2⟩
theorem OwnY.ext {w0 w w' : World} {B : Nat} {y : XV} (h : OwnY w0 w B y) (he : Ext w w') : OwnY w0 w' B y := ⟨own_ext h.top he, h.ok, own_ext h.row he, fun f hf => (h.lw f hf).ext he⟩
theorem OwnY.set {w0 w : World} {B : Nat} {y : XV} (h : OwnY w0 w B y) {p : Addr} (hp : p.block < B) (u : Value) : OwnY w0 (w.setCell p u) B y :=
  ⟨own_set h.top hp u, h.ok, own_set h.row hp u, fun f hf => ⟨own_set (h.lw f hf).row hp u, (h.lw f hf).ok⟩⟩
theorem OwnY.to {w0 w : World} {B B' : Nat} {y : XV} (h : OwnY w0 w B y) (hB : B' ≤ B) : OwnY w0 w B' y := ⟨own_base h.top hB, h.ok, own_base h.row hB, fun f hf => ⟨own_base (h.lw f hf).row hB, (h.lw f hf).ok⟩⟩
theorem wv_one (f : WV) : ∀ u ∈ [Value.slice f.A f.len f.cap], u.oneCell' = true := Thing.one f
theorem rd_at1 {w : World} {g : Nat} {t : TypeId} (a : Value) (hb : Blk w g t [a]) : Rd w (some ⟨g, 0, none⟩) 1 1 [a] := by
  refine ⟨rfl, fun _ => ⟨g, 0, rfl, hb.lt, fun j u hu => ?_⟩⟩
  rw [Nat.zero_add, hb.cell]; exact hu

theorem own_end {w w0 wr : World} {Av Ar : Option Addr} {m cv j cr : Nat} {top : List FV} {more : List (List FV)} {L : List WV} (hT : wr.ownsRow w0.heap.size 54 4 (.slice Av m cv) m (rowOf top)) (hrow : wr.ownsRow w0.heap.size 30 1 (.slice Ar j cr) j (thingsOf L))
    (hL : ∀ y ∈ L, LW w wr w0.heap.size y) (hx : Ext w wr) (hg : w.heap.size + 1 < w0.heap.size) (hok : ∀ f ∈ top, f.Ok w) (hM : L.map WV.l = (more.take 20).map some12) (hLl : L.length = j) (hj : j ≤ 20) (hm : top.length ≤ 12) :
    ∃ y : XV, (Value.agg #[.slice Av m cv, .slice Ar j cr] : Value) = y.val ∧ OwnY w ((wr.setCell ⟨w.heap.size + 1, 0, none⟩ (.slice Av m cv)).setCell ⟨w.heap.size + 1, 1, none⟩ (.slice Ar j cr)) w.heap.size y ∧ y.top = top ∧ y.more = (more.take 20).map some12 ∧ y.Few ∧ Ext w ((wr.setCell ⟨w.heap.size + 1, 0, none⟩ (.slice Av m cv)).setCell ⟨w.heap.size + 1, 1, none⟩ (.slice Ar j cr)) := by
  have xe : Ext w ((wr.setCell ⟨w.heap.size + 1, 0, none⟩ (.slice Av m cv)).setCell ⟨w.heap.size + 1, 1, none⟩ (.slice Ar j cr)) := (hx.setCell (p := ⟨w.heap.size + 1, 0, none⟩) (Nat.le_succ _) _).setCell (p := ⟨w.heap.size + 1, 1, none⟩) (Nat.le_succ _) _
  have s2 : ∀ {e : TypeId} {s n : Nat} {v : Value} {xs : List Value}, wr.ownsRow w0.heap.size e s v n xs → ((wr.setCell ⟨w.heap.size + 1, 0, none⟩ (.slice Av m cv)).setCell ⟨w.heap.size + 1, 1, none⟩ (.slice Ar j cr)).ownsRow w0.heap.size e s v n xs :=
    fun h => own_set (own_set h (p := ⟨w.heap.size + 1, 0, none⟩) hg _) (p := ⟨w.heap.size + 1, 1, none⟩) hg _
  have hml : m = top.length := by have := hT.1; rw [rowOf_len] at this; omega
  refine ⟨⟨Av, m, cv, top, Ar, j, cr, L⟩, rfl, ⟨own_base (s2 hT) (by omega), hok, own_base (s2 hrow) (by omega), fun f hf => ⟨own_base (s2 (hL f hf).row) (by omega), (hL f hf).ok⟩⟩, rfl, hM, ⟨?_, ?_, ?_⟩, xe⟩
  · show m ≤ 18000; omega
  · show j ≤ 18000; omega
  · intro y hy
    show y.len ≤ 18000
    have h1 := (hL y hy).row.1
    rw [rowOf_len] at h1
    have h2 : y.l ∈ (more.take 20).map some12 := by rw [← hM]; exact List.mem_map_of_mem hy
    obtain ⟨r, _, e⟩ := List.mem_map.1 h2
    have h3 := some12_len r
    rw [e] at h3
    omega
set_option maxRecDepth 100000 in
theorem law10_short (A : Option Addr) (n c : Nat) (w : World) (hnc : n ≤ c) (hc : c ≤ maxLen) : Calls Tryz.prog 5 #[.slice A n c] w fun e w' => e = .returned (.slice A (min n 17000) c) ∧ w = w' := by
  have h63 : n ≤ 9223372036854775807 := by unfold maxLen at hc; omega
  clear hc
  go_enter Tryz.func5, Tryz.ntmps5
  by_cases h : 17000 < n
  · have e : min n 17000 = 17000 := by omega
    rw [e]
    go_wp2
    go_ret
    exact ⟨rfl, rfl⟩
  · have e : min n 17000 = n := by omega
    rw [e]
    go_wp2
    go_ret
    exact ⟨rfl, rfl⟩

/-! the document's example -/
def noneX : XV := ⟨none, 0, 0, [], none, 0, 0, []⟩
theorem noneX_ok (w : World) : noneX.Ok w := ⟨Fs.nil_ _ _, Nat.le_refl _, Nat.zero_le _, Ts.nil_ _ _ (by omega), Nat.le_refl _, Nat.zero_le _⟩
theorem noneX_few : noneX.Few := ⟨Nat.zero_le _, Nat.zero_le _, by unfold noneX; simp⟩
theorem fresh_may : kmay freshK 1 = 0 := by decide
theorem fresh_put : kput 1 freshK [] [] = ([8, 1, 16, 1], 0) := by
  rw [kput_nil fresh_may]
  have e : stF 1 freshK [] [] = [tfv 1 0 1 [], tfv 2 0 1 []] := by
    simp [stF, freshK, numF, snpsF, recF]
  rw [e]
  simp [rput, fbytes, fput, tfv, vput_small]
set_option maxRecDepth 100000 in
theorem law10_shown (w : World) : Calls Tryz.prog 4 #[] w fun e w' => e = .returned (.bool true) ∧ Ext w w' := by
  have HP := Lib.hid (fun W => image_Put freshK noneX 1 W (freshK_ok W) (noneX_ok W) freshK_few noneX_few)
  unfold PutPost at HP
  rw [show kput 1 freshK noneX.more noneX.top = ([8, 1, 16, 1], 0) from fresh_put] at HP
  unfold KV.val XV.val freshK noneX at HP
  dsimp only at HP
  have HFR := Lib.hid (fun W => ref07_Fresh W)
  unfold KV.val freshK at HFR
  dsimp only at HFR
  go_enter Tryz.func4, Tryz.ntmps4
  go_wp2_with fail
  refine (HFR.out _).mono ?_
  rintro e w1 ⟨rfl, x1⟩
  go_wp2_with fail
  refine (HP.out _).mono ?_
  rintro e w2 ⟨v, rfl, hown, x2⟩
  have hx := x1.trans x2
  obtain ⟨A, c, rfl, _⟩ := own_form hown
  have hs1 := str_at (show Bs w2 A 4 [8, 1, 16, 1] from Bs.of_own hown) c
  have hs2 := str_at (bs_lit w2 #[.int .u8 8, .int .u8 1, .int .u8 16, .int .u8 1] [8, 1, 16, 1] 4 rfl rfl) 4
  clear hown HP HFR
  go_wp2
  go_ret
  exact ⟨rfl, hx.alloc _⟩
end Go.Proofs.YtiildgoaiookhaaGreat

/- What the laws of layer 10 begin with. -/
namespace Go.Proofs.YtiildgoaiookhaaGreat
open Go.RowKit

theorem Blk.far7 {w : World} {g g' : Nat} {t : TypeId} {l : List Value} (h : Blk w g t l) (hg : g ≠ g') (a b c d e f v : Value) : Blk (put7 w g' a b c d e f v) g t l :=
  ((((((h.far (p := ⟨g', 0, none⟩) hg a).far (p := ⟨g', 1, none⟩) hg b).far (p := ⟨g', 2, none⟩) hg c).far (p := ⟨g', 3, none⟩) hg d).far (p := ⟨g', 4, none⟩) hg e).far (p := ⟨g', 5, none⟩) hg f).far (p := ⟨g', 6, none⟩) hg v
theorem put7_size (w : World) (g : Nat) (a b c d e f v : Value) : (put7 w g a b c d e f v).heap.size = w.heap.size := by unfold put7; simp
/-- a world in which a block of two cells was stored anew -/
def put2 (w : World) (g : Nat) (a b : Value) : World := (w.setCell ⟨g, 0, none⟩ a).setCell ⟨g, 1, none⟩ b
theorem st2_def (w : World) (g : Nat) (a b : Value) : (w.setCell ⟨g, 0, none⟩ a).setCell ⟨g, 1, none⟩ b = put2 w g a b := rfl
theorem put2_size (w : World) (g : Nat) (a b : Value) : (put2 w g a b).heap.size = w.heap.size := by unfold put2; simp
theorem Blk.st2 {w : World} {g : Nat} {t : TypeId} {a' b' : Value} (h : Blk w g t [a', b']) (a b : Value) : Blk (put2 w g a b) g t [a, b] := by
  have := (h.set_ 0 a).set_ 1 b
  unfold put2
  simpa using this
theorem Blk.far2 {w : World} {g g' : Nat} {t : TypeId} {l : List Value} (h : Blk w g t l) (hg : g ≠ g') (a b : Value) : Blk (put2 w g' a b) g t l :=
  (h.far (p := ⟨g', 0, none⟩) hg a).far (p := ⟨g', 1, none⟩) hg b
theorem Ext.st2 {w0 w : World} {g : Nat} (h : Ext w0 w) (hg : w0.heap.size ≤ g) (a b : Value) : Ext w0 (put2 w g a b) := (h.setCell (p := ⟨g, 0, none⟩) hg a).setCell (p := ⟨g, 1, none⟩) hg b
theorem own_st2 {w : World} {base : Nat} {t : TypeId} {size n : Nat} {u : Value} {xs : List Value} (h : w.ownsRow base t size u n xs) {g : Nat} (hg : g < base) (a b : Value) : (put2 w g a b).ownsRow base t size u n xs :=
  own_set (own_set h (p := ⟨g, 0, none⟩) hg a) (p := ⟨g, 1, none⟩) hg b

/-- a catalogue that was cut, in its box -/
structure LK (W : World) (B g : Nat) (s t : KV) : Prop where
  blk : Blk W g 29 [.int .i64 t.ver, .int .i64 t.next, .int .i64 t.keep, .int .i64 t.quota, .slice t.A1 t.n1 t.c1, .slice t.A2 t.n2 t.c2, .slice t.A3 t.n3 t.c3]
  like : ∃ A c, t = lessK s A c
  own : W.ownsRow B 70 5 (.slice t.A3 t.n3 t.c3) t.n3 (thingsOf t.sns)
  lt : g < B
theorem LK.ok {w0 W : World} {B g : Nat} {s t : KV} (h : LK W B g s t) (hs : s.Ok w0) (he : Ext w0 W) : t.Ok W := by
  obtain ⟨A, c, rfl⟩ := h.like
  exact lessK_ok hs he h.own
theorem LK.few {W : World} {B g : Nat} {s t : KV} (h : LK W B g s t) : t.Few := by
  obtain ⟨A, c, rfl⟩ := h.like
  exact lessK_few s A c
theorem LK.n20 {W : World} {B g : Nat} {s t : KV} (h : LK W B g s t) : t.n1 ≤ 20 ∧ t.n2 ≤ 20 ∧ t.n3 ≤ 20 := by
  obtain ⟨A, c, rfl⟩ := h.like
  refine ⟨?_, ?_, ?_⟩ <;> dsimp only [lessK] <;> omega
theorem LK.ch {W : World} {B g : Nat} {s t : KV} (h : LK W B g s t) : ∀ f ∈ t.sns, f.len ≤ 12 := by
  obtain ⟨A, c, rfl⟩ := h.like
  intro f hf
  obtain ⟨k, _, rfl⟩ := List.mem_map.1 hf
  exact cutN_len k
theorem LK.ext {W W' : World} {B g : Nat} {s t : KV} (h : LK W B g s t) (he : Ext W W') : LK W' B g s t := ⟨h.blk.ext he, h.like, own_ext h.own he, h.lt⟩
theorem LK.far7 {W : World} {B g g' : Nat} {s t : KV} (h : LK W B g s t) (hg : g ≠ g') (hB : g' < B) (a b c d e f v : Value) : LK (put7 W g' a b c d e f v) B g s t := ⟨h.blk.far7 hg a b c d e f v, h.like, own_st7 h.own hB a b c d e f v, h.lt⟩
theorem LK.far2 {W : World} {B g g' : Nat} {s t : KV} (h : LK W B g s t) (hg : g ≠ g') (hB : g' < B) (a b : Value) : LK (put2 W g' a b) B g s t := ⟨h.blk.far2 hg a b, h.like, own_st2 h.own hB a b, h.lt⟩
theorem LK.start {W : World} {B g : Nat} {s : KV} {A : Option Addr} {c : Nat} {a' b' c' d' e' f' v' : Value} (hb : Blk W g 29 [a', b', c', d', e', f', v']) (ho : W.ownsRow B 70 5 (.slice A (min 20 s.n3) c) (min 20 s.n3) (thingsOf (cutSn s.sns))) (hg : g < B) :
    LK (put7 W g (.int .i64 (lessK s A c).ver) (.int .i64 (lessK s A c).next) (.int .i64 (lessK s A c).keep) (.int .i64 (lessK s A c).quota) (.slice (lessK s A c).A1 (lessK s A c).n1 (lessK s A c).c1) (.slice (lessK s A c).A2 (lessK s A c).n2 (lessK s A c).c2) (.slice (lessK s A c).A3 (lessK s A c).n3 (lessK s A c).c3)) B g s (lessK s A c) :=
  ⟨hb.st7 _ _ _ _ _ _ _, ⟨A, c, rfl⟩, own_st7 ho hg _ _ _ _ _ _ _, hg⟩
theorem OwnY.rebase {wb w w' : World} {B : Nat} {x y : XV} (h : OwnY w w' B y) (e1 : y.top = some12 x.top) (e2 : y.more = (x.more.take 20).map some12) (hx : x.Ok wb) : OwnY wb w' B y := by
  refine ⟨h.top, by rw [e1]; exact some12_ok hx.t1.ok, h.row, fun f hf => ⟨(h.lw f hf).row, ?_⟩⟩
  have h2 : f.l ∈ (x.more.take 20).map some12 := by rw [← e2]; exact List.mem_map_of_mem hf
  obtain ⟨r, hr, e⟩ := List.mem_map.1 h2
  have hr2 := List.mem_of_mem_take hr
  obtain ⟨z, hz, rfl⟩ := List.mem_map.1 hr2
  rw [← e]
  exact some12_ok (hx.t2.ok z hz).fs.ok
/-- a rest that was cut, in its box -/
structure LX (w0 W : World) (B g : Nat) (x y : XV) : Prop where
  blk : Blk W g 33 [.slice y.A1 y.n1 y.c1, .slice y.A2 y.n2 y.c2]
  own : OwnY w0 W B y
  few : y.Few
  lt : g < B
theorem LX.ok {w0 W : World} {B g : Nat} {x y : XV} (h : LX w0 W B g x y) (he : Ext w0 W) : y.Ok W := h.own.ok_ he
theorem LX.ext {w0 W W' : World} {B g : Nat} {x y : XV} (h : LX w0 W B g x y) (he : Ext W W') : LX w0 W' B g x y := ⟨h.blk.ext he, h.own.ext he, h.few, h.lt⟩
theorem LX.start {w0 W : World} {B g : Nat} {x y : XV} {a' b' : Value} (hb : Blk W g 33 [a', b']) (ho : OwnY w0 W B y) (hf : y.Few) (hg : g < B) : LX w0 (put2 W g (.slice y.A1 y.n1 y.c1) (.slice y.A2 y.n2 y.c2)) B g x y :=
  ⟨hb.st2 _ _, (ho.set (p := ⟨g, 0, none⟩) hg _).set (p := ⟨g, 1, none⟩) hg _, hf, hg⟩
theorem fs_k {w : World} {A : Option Addr} {n : Nat} {l : List FV} (h : Fs w A n l) : ∀ f ∈ l, U64 f.n ∧ f.len = f.b.length := fun f hf => ⟨(h.ok f hf).u, (h.ok f hf).bs.len.symm⟩
theorem XV.Ok.kt {w : World} {x : XV} (h : x.Ok w) : ∀ f ∈ x.top, U64 f.n ∧ f.len = f.b.length := fs_k h.t1
theorem XV.Ok.km {w : World} {x : XV} (h : x.Ok w) : ∀ m ∈ x.more, ∀ f ∈ m, U64 f.n ∧ f.len = f.b.length := fun m hm => by
  obtain ⟨z, hz, rfl⟩ := List.mem_map.1 hm
  exact fs_k (h.t2.ok z hz).fs
/-- the version that a byte says -/
def verB (n : Int) : Int := 1 + n.tmod 3
theorem verB_in (n : Int) (h0 : 0 ≤ n) : 1 ≤ verB n ∧ verB n ≤ 3 := by
  unfold verB
  rw [Int.tmod_eq_emod_of_nonneg h0]
  omega
end Go.Proofs.YtiildgoaiookhaaGreat
