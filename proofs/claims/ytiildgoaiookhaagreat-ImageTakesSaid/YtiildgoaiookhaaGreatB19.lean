/- Words and walks that the last text of this claim stands on: ImF, IrA, In1, IrB, In2. No condition. -/
import Derived.Test.YtiildgoaiookhaaGreatB18
import Derived.Laws.IdiomStrings
import Derived.Test.YtiildgoaiookhaaGreatB16
import Derived.Test.YtiildgoaiookhaaGreatB13
import Derived.Test.YtiildgoaiookhaaGreatB08
import Derived.Test.YtiildgoaiookhaaGreatB17
import Derived.Test.YtiildgoaiookhaaGreatB14
/- The walks of image.fits and image.snap. -/
namespace Go.Proofs.YtiildgoaiookhaaGreat
open Go.RowKit

/-- a field that is there, whose bytes lie in no row of fields -/
structure LieF (w : World) (f : FV) : Prop where
  ok : f.Ok w
  at_ : f.len = 0 ∨ ∃ b off C t p, f.A = some ⟨b, off, none⟩ ∧ w.heap[b]? = some (.cells C t p) ∧ t ≠ 54
theorem LieF.ext {w w' : World} {f : FV} (h : LieF w f) (he : Ext w w') : LieF w' f :=
  ⟨h.ok.ext he, by
    rcases h.at_ with h0 | ⟨b, off, C, t, p, e1, e2, e3⟩
    · exact .inl h0
    · exact .inr ⟨b, off, C, t, p, e1, (he.block b (lt_of_block e2)).trans e2, e3⟩⟩
theorem LieF.none_ (w : World) (num wire : Int) (n : Nat) (hn : U64 n) : LieF w ⟨num, wire, n, none, 0, 0, []⟩ := ⟨⟨Bs.nil_ _ _, Nat.le_refl _, by simp [maxLen], hn⟩, .inl rfl⟩
theorem LieF.of_own {w : World} {B : Nat} {f : FV} (h : OwnF w B f) : LieF w f := by
  refine ⟨h.ok, ?_⟩
  rcases h.1.2 with ⟨hv, h0⟩ | ⟨g, cap, cur, hv, _, hg, _⟩
  · exact .inl h0
  · injection hv with hv
    exact .inr ⟨g, 0, cur, 5, (0, 0), hv, hg, by decide⟩
theorem LieF.grown {w w' : World} {f : FV} {B' n : Nat} {v : Value} {xs : List Value} (h : LieF w f) (hv : w.ownsRow B' 54 4 v n xs) (hg : w.grownBy w' v.ownBlock) : LieF w' f := by
  rcases h.at_ with h0 | ⟨b, off, C, t, p, e1, e2, e3⟩
  · have hb := h.ok.bs
    rw [h0] at hb
    have hl : f.b = [] := List.eq_nil_of_length_eq_zero hb.len
    exact ⟨⟨by rw [h0, hl]; exact Bs.nil_ _ _, h.ok.le, h.ok.cap, h.ok.u⟩, .inl h0⟩
  · have hne : some b ≠ v.ownBlock := by
      rcases hv.2 with ⟨rfl, _⟩ | ⟨g, cap, cur, rfl, _, hgg, _⟩
      · simp [Value.ownBlock]
      · intro e
        simp only [Value.ownBlock, Option.some.injEq] at e
        subst e
        rw [e2] at hgg
        injection hgg with hgg
        injection hgg with _ ht
        exact e3 ht
    have hblk := hg.block b (lt_of_block e2) hne
    refine ⟨⟨⟨h.ok.bs.1, fun hp => ?_⟩, h.ok.le, h.ok.cap, h.ok.u⟩, .inr ⟨b, off, C, t, p, e1, hblk.trans e2, e3⟩⟩
    obtain ⟨b1, off1, k1, k2, k3⟩ := h.ok.bs.2 hp
    rw [e1] at k1
    injection k1 with k1
    injection k1 with k1 k4
    subst k1 k4
    refine ⟨b, off, e1, Nat.lt_of_lt_of_le k2 hg.size, fun j u hu => ?_⟩
    rw [World.cell?_of_block hblk]
    exact k3 j u hu
/-- a row of fields of the call's own, each there -/
structure RowL (w : World) (B : Nat) (v : Value) (d : List FV) : Prop where
  row : w.ownsRow B 54 4 v d.length (rowOf d)
  lie : ∀ f ∈ d, LieF w f
theorem RowL.ext {w w' : World} {B : Nat} {v : Value} {d : List FV} (h : RowL w B v d) (he : Ext w w') : RowL w' B v d := ⟨own_ext h.row he, fun f hf => (h.lie f hf).ext he⟩
theorem RowL.app {w w' : World} {B : Nat} {v v' : Value} {d : List FV} {f : FV} (h : RowL w B v d) (hf : LieF w f) (hg : w.grownBy w' v.ownBlock) (hown : w'.ownsRow B 54 4 v' (d.length + 1) (rowOf d ++ f.cells)) : RowL w' B v' (d ++ [f]) := by
  refine ⟨own_to hown (Nat.le_refl _) (by simp) (by rw [rowOf_append, rowOf_one]), fun g hg' => ?_⟩
  rcases List.mem_append.1 hg' with hg' | hg'
  · exact (h.lie g hg').grown h.row hg
  · simp only [List.mem_singleton] at hg'
    subst hg'; exact hf.grown h.row hg
theorem RowL.to {w : World} {B B' : Nat} {v : Value} {d : List FV} (h : RowL w B v d) (hB : B' ≤ B) : RowL w B' v d := ⟨own_base h.row hB, h.lie⟩
theorem numF_rowL {w : World} {B : Nat} {v : Value} {l : List Int} (h : w.ownsRow B 54 4 v (numF 1 l).length (rowOf (numF 1 l))) (hl : ∀ x ∈ l, 0 ≤ x ∧ x ≤ 4611686018427387904) : RowL w B v (numF 1 l) :=
  ⟨h, fun f hf => by
    obtain ⟨i, hi, _, rfl⟩ := numF_mem l 1 f hf
    have := hl l[i] (List.getElem_mem _)
    exact LieF.none_ w _ _ _ (by unfold U64; omega)⟩
/-- the bytes of a string -/
theorem str_bytes (s : ByteArray) (hs : s.size ≤ maxLen) (w : World) : ∃ c W', (convert 9 22 (.string s)).run Tryz.prog w = .ok (.slice (some ⟨w.heap.size, 0, none⟩) s.size c) W' ∧ Ext w W' ∧
    (∀ num wire : Int, LieF W' ⟨num, wire, 0, some ⟨w.heap.size, 0, none⟩, s.size, c, s.data.toList⟩) ∧ s.size ≤ c ∧ c ≤ maxLen := by
  refine ⟨_, _, run_bytes_of_string w _ _ _ s Tryz.underlying9 Tryz.underlying22 Tryz.underlying5, ((Ext.refl w).drew).alloc _, fun num wire => ?_, grownCap_ge _ _ _ _, grownCap_le_maxLen _ _ _ _ hs⟩
  have hnew : (w.drew.alloc (.cells (bytesRow s (grownCap w s.size 0 5)) 5 ((bytesRow s (grownCap w s.size 0 5)).size, (bytesRow s (grownCap w s.size 0 5)).size + 1))).heap[w.heap.size]? = some (.cells (bytesRow s (grownCap w s.size 0 5)) 5 ((bytesRow s (grownCap w s.size 0 5)).size, (bytesRow s (grownCap w s.size 0 5)).size + 1)) := heap_alloc_new w.drew _
  refine ⟨⟨⟨by rw [List.length_map, Nat.mul_one]; exact (tag_len_ s).symm, fun _ => ⟨w.heap.size, 0, rfl, lt_of_block hnew, fun j u hu => ?_⟩⟩, grownCap_ge _ _ _ _, grownCap_le_maxLen _ _ _ _ hs, by simp [U64]⟩, .inr ⟨w.heap.size, 0, _, _, _, rfl, hnew, by decide⟩⟩
  have hj : j < s.data.size := by
    have := (List.getElem?_eq_some_iff.1 hu).1
    simpa using this
  rw [List.getElem?_map] at hu
  have e : s.data.toList[j]? = some s.data[j] := by simp
  rw [e] at hu
  simp only [Option.map_some, Option.some.injEq] at hu
  subst hu
  rw [Nat.zero_add, cell_of_row _ _ _ _ _ _ hnew]
  unfold bytesRow
  rw [Array.getElem?_append_left (by simpa using hj), Array.getElem?_map, Array.getElem?_eq_getElem hj]
  rfl

set_option maxRecDepth 100000 in
set_option maxHeartbeats 1600000 in
theorem image_fits (s : KV) (x : XV) (ver : Int) (b : Bool) (hb : badRest ver s x.more x.top = b) (w : World) (hs : s.Ok w) (hx : x.Ok w) (hf : x.Few) (hn3 : s.n3 ≤ 1000000) :
    Calls Tryz.prog 29 #[s.val, x.val, .int .i64 ver] w fun e w' => e = .returned (.bool (!b)) ∧ Ext w w' := by
  have hl3 := hs.t3.len
  have ht1 := hx.t1
  have ht2 := hx.t2
  have hl2 := hx.t2.len
  have f1 := hf.n1
  have f2 := hf.n2
  have fl := hf.ln
  unfold badRest XV.more at hb
  rw [List.length_map, hl2, hl3] at hb
  clear hs hx hf
  obtain ⟨ver_, next, keep, quota, B1, m1, d1, ses, B2, m2, d2, ops, B3, m3, d3, sns⟩ := s
  obtain ⟨A1, n1, c1, top, A2, n2, c2, more⟩ := x
  unfold KV.val XV.val
  dsimp only at *
  have hB0 := Blk.new w 29 [.int .i64 ver_, .int .i64 next, .int .i64 keep, .int .i64 quota, .slice B1 m1 d1, .slice B2 m2 d2, .slice B3 m3 d3]
  have hR0 := Blk.new (w.alloc (.cells #[.int .i64 ver_, .int .i64 next, .int .i64 keep, .int .i64 quota, .slice B1 m1 d1, .slice B2 m2 d2, .slice B3 m3 d3] 29)) 33 [.slice A1 n1 c1, .slice A2 n2 c2]
  replace hB0 := hB0.alloc (.cells #[.slice A1 n1 c1, .slice A2 n2 c2] 33)
  have xa : Ext w ((w.alloc (.cells #[.int .i64 ver_, .int .i64 next, .int .i64 keep, .int .i64 quota, .slice B1 m1 d1, .slice B2 m2 d2, .slice B3 m3 d3] 29)).alloc (.cells #[.slice A1 n1 c1, .slice A2 n2 c2] 33)) := ((Ext.refl w).alloc _).alloc _
  rw [show (w.alloc (.cells #[.int .i64 ver_, .int .i64 next, .int .i64 keep, .int .i64 quota, .slice B1 m1 d1, .slice B2 m2 d2, .slice B3 m3 d3] 29)).heap.size = w.heap.size + 1 by simp] at hR0
  go_enter Tryz.func29, Tryz.ntmps29
  go_upto_region 1 with fail
  generalize ((w.alloc (.cells #[.int .i64 ver_, .int .i64 next, .int .i64 keep, .int .i64 quota, .slice B1 m1 d1, .slice B2 m2 d2, .slice B3 m3 d3] 29)).alloc (.cells #[.slice A1 n1 c1, .slice A2 n2 c2] 33)) = W0 at *
  have HL := Lib.hid (fun b h => image_low 5 ver A1 n1 c1 top b h W0 (ht1.ext xa) (by omega))
  have r0 := hR0.cell 0
  simp only [List.getElem?_cons_zero] at r0
  rcases h1 : lowK (topS ver) top with _ | _
  · rw [h1, Bool.false_or] at hb
    have H1 := Lib.hid (HL.out _ h1)
    clear HL h1
    go_wp2_with fail
    refine H1.out.mono ?_
    rintro e w1 ⟨rfl, x1⟩
    replace xa := xa.trans x1
    replace hB0 := hB0.ext x1
    replace hR0 := hR0.ext x1
    clear x1 H1 r0
    have r1 := hR0.cell 1
    have s6 := hB0.cell 6
    simp only [List.getElem?_cons_zero, List.getElem?_cons_succ] at r1 s6
    by_cases h2 : m3 < n2
    · rw [dec_t h2, Bool.true_or] at hb
      subst hb
      have h2I : (m3 : Int) < n2 := by omega
      clear hB0 hR0
      go_wp2_with fail
      go_ret
      exact ⟨rfl, xa⟩
    · rw [dec_f h2, Bool.false_or] at hb
      have h2I : decide (m3 < n2) = false := dec_f h2
      have HB := Lib.hid hb
      have HBR := Lib.hid hR0
      have hB8 : ∀ f ∈ more, f.Ok w := ht2.ok
      have HOK := Lib.hid hB8
      have HLN := Lib.hid fl
      clear hb hB0 hR0 h2 hB8 fl
      go_wp2_with fail
      go_loopw [8, 25] (fun _ i wr => ∃ j : Nat, i = .int .i64 j ∧ j ≤ n2 ∧ Hid ((more.map WV.l |>.take j).any (lowK (topN ver)) = false) ∧ Ext w wr) (fun _ i _ => n2 - (intOf i).toNat)
      case atStart => exact ⟨0, rfl, by omega, Lib.hid rfl, xa⟩
      case round =>
        clear xa HBR r1 s6
        obtain ⟨j, rfl, hj, HJ, hxr⟩ := hrel
        by_cases hjn : j < n2
        · have hjl : j < more.length := by omega
          obtain ⟨bb, off, rfl, hc⟩ := Wss.cell (ht2.ext hxr) hjn hjl
          have hok := (HOK.out more[j] (List.getElem_mem _)).ext hxr
          have hln := HLN.out more[j] (List.getElem_mem _)
          have Hsn : Hid ((more.map WV.l).take (j + 1) = (more.map WV.l).take j ++ [more[j].l]) := Lib.hid (by rw [List.take_succ_eq_append_getElem (by simpa using hjl)]; simp)
          have Hin : Hid (more[j].l ∈ more.map WV.l) := Lib.hid (List.mem_map_of_mem (List.getElem_mem _))
          generalize more[j] = f at *
          have hj0 : (0 : Int) ≤ j := by omega
          have hj1 : (j : Int) < n2 := by omega
          have HL := Lib.hid (fun b h => image_low 2 ver f.A f.len f.cap f.l b h wr hok.fs (by omega))
          clear hok
          rcases h3 : lowK (topN ver) f.l with _ | _
          · have H3 := Lib.hid (HL.out _ h3)
            have H4 := Lib.hid h3
            clear HL h3
            go_wp2_with fail
            refine H3.out.mono ?_
            rintro e w2 ⟨rfl, x2⟩
            go_wp2_with fail
            go_roundw
            case rel => exact ⟨j + 1, val_int (by omega), by omega, Lib.hid (by rw [Hsn.out, List.any_append, HJ.out]; simp [H4.out]), hxr.trans x2⟩
            case measure => simp [intOf]; omega
          · have H3 := Lib.hid (HL.out _ h3)
            have hbt : b = true := by
              rw [← HB.out, List.any_eq_true]
              exact ⟨_, Hin.out, h3⟩
            subst hbt
            clear HL h3
            go_wp2_with fail
            refine H3.out.mono ?_
            rintro e w2 ⟨rfl, x2⟩
            go_wp2_with fail
            go_ret
            exact ⟨rfl, hxr.trans x2⟩
        · obtain rfl : n2 = j := by omega
          have hbf : b = false := by
            have e := HJ.out
            rw [List.take_of_length_le (by simp; omega), HB.out] at e
            exact e
          subst hbf
          go_wp2_with fail
          go_ret
          exact ⟨rfl, hxr⟩
  · rw [h1, Bool.true_or, Bool.true_or] at hb
    subst hb
    have H1 := Lib.hid (HL.out _ h1)
    clear HL h1
    go_wp2_with fail
    refine H1.out.mono ?_
    rintro e w1 ⟨rfl, x1⟩
    go_wp2_with fail
    go_ret
    exact ⟨rfl, xa.trans x1⟩
/-- what image.snap leaves -/
def SnapPost (ver : Int) (f : NV) (rest : List FV) (m : Nat) (w : World) (e : Ending) (w' : World) : Prop :=
  ∃ (A : Option Addr) (n c : Nat) (D : List FV), e = .returned (.slice A n c) ∧ Fs w' A n D ∧ D.map FV.s = (snpF ver f rest).map FV.s ∧ n ≤ m + 5 ∧ Ext w w'
/-- the fields of a snapshot's held, and of its tag -/
def heldF (ver : Int) (x : NV) : List FV := if 2 ≤ ver ∧ x.held = true then [tfv 4 0 1 []] else []
def tagF (ver : Int) (x : NV) : List FV := if 3 ≤ ver ∧ x.tag ≠ ⟨#[]⟩ then [tfv 5 2 0 x.tag.data.toList] else []
theorem snpF_parts (ver : Int) (x : NV) (rest : List FV) : snpF ver x rest = ((numF 1 [x.id, x.set] ++ [tfv 3 2 0 (chput x.ch)]) ++ heldF ver x) ++ tagF ver x ++ rest := by
  unfold snpF snpH heldF tagF; simp only [List.append_assoc, List.cons_append, List.nil_append]
theorem image_number_41 (w : World) : Calls Tryz.prog 35 #[.int .i64 4, .int .i64 1] w fun e w' => e = .returned (.agg #[.int .i64 4, .int .i64 0, .int .u64 1, .slice none 0 0]) ∧ Ext w w' :=
  image_number 4 1 1 rfl (by unfold U64; omega) w
set_option maxRecDepth 100000 in
set_option maxHeartbeats 3200000 in
theorem image_snap (f : NV) (ver : Int) (A : Option Addr) (m c : Nat) (rest : List FV) (w : World) (hf : f.Ok w) (hr : rowChB f.ch = true) (hid : ∀ n ∈ [f.id, f.set], 0 ≤ n ∧ n ≤ 4611686018427387904) (ht : f.tag.size ≤ 16) (hrest : Fs w A m rest) (hm : m ≤ 18000) :
    Calls Tryz.prog 34 #[.agg #[.int .i64 f.id, .int .i64 f.set, .slice f.A f.len f.cap, .bool f.held, .string f.tag], .slice A m c, .int .i64 ver] w (SnapPost ver f rest m w) := by
  have HE : Hid (∀ (W : World) (e : Ending), SnapPost ver f rest m w e W ↔ ∃ (A : Option Addr) (n c : Nat) (D : List FV), e = .returned (.slice A n c) ∧ Fs W A n D ∧ D.map FV.s = (snpF ver f rest).map FV.s ∧ n ≤ m + 5 ∧ Ext w W) := Lib.hid fun _ _ => Iff.rfl
  have HPART := Lib.hid (snpF_parts ver f rest)
  have HHELD : Hid (heldF ver f = if 2 ≤ ver ∧ f.held = true then [tfv 4 0 1 []] else []) := Lib.hid rfl
  have HTAG : Hid (tagF ver f = if 3 ≤ ver ∧ f.tag ≠ ⟨#[]⟩ then [tfv 5 2 0 f.tag.data.toList] else []) := Lib.hid rfl
  generalize heldF ver f = H4 at *
  generalize tagF ver f = H5 at *
  generalize SnapPost ver f rest m w = POST at *
  generalize snpF ver f rest = SN at *
  have hcs := hf.cs
  have HCH := Lib.hid (chput_80 hr)
  have HST := Lib.hid (str_bytes f.tag hf.ut)
  have hte : f.tag = ⟨#[]⟩ ∨ (f.tag.toList = [] ↔ False) := by
    by_cases h : f.tag = ⟨#[]⟩
    · exact .inl h
    · right
      refine ⟨fun e => h ?_, False.elim⟩
      rw [ByteArray.toList_eq] at e
      have h0 : f.tag.data = #[] := by have := congrArg List.toArray e; simpa using this
      rw [← h0]
  obtain ⟨id, set, fA, flen, fcap, ch, held, tag⟩ := f
  dsimp only at *
  have hB0 := Blk.new w 70 [.int .i64 id, .int .i64 set, .slice fA flen fcap, .bool held, .string tag]
  have x0 : Ext w (w.alloc (.cells #[.int .i64 id, .int .i64 set, .slice fA flen fcap, .bool held, .string tag] 70)) := (Ext.refl w).alloc _
  have HID := Lib.hid hid
  have HR := Lib.hid hr
  clear hf hid hr
  go_enter Tryz.func34, Tryz.ntmps34
  go_upto_region 1 with fail
  generalize hg : w.heap.size = g at hB0 ⊢
  generalize w.alloc (.cells #[.int .i64 id, .int .i64 set, .slice fA flen fcap, .bool held, .string tag] 70) = W0 at *
  clear hg
  have q0 := hB0.cell 0
  have q1 := hB0.cell 1
  simp only [List.getElem?_cons_zero, List.getElem?_cons_succ] at q0 q1
  go_wp2_with fail
  refine (image_numbers _ _ _ [id, set] _ (is_lit W0 [id, set] _ _ 2 _ rfl rfl (by simp)) (by omega) HID.out).mono ?_
  rintro e w1 ⟨v1, rfl, hown1, x1⟩
  have y1 := ((Ext.refl W0).alloc (.cells #[.int .i64 id, .int .i64 set] 3)).trans x1
  have HD1 := Lib.hid (numF_rowL (own_base (base' := W0.heap.size) hown1 (by simp)) HID.out)
  have HD2 : Hid ((numF 1 [id, set]).length ≤ 2) := Lib.hid (numF_len [id, set] 1)
  generalize numF 1 [id, set] = d1 at *
  have q2 := (hB0.ext y1).cell 2
  simp only [List.getElem?_cons_zero, List.getElem?_cons_succ] at q2
  clear q0 q1 hown1 x1
  have HCK := Lib.hid (cmd_Chunks_ok fA flen fcap ch w1 (hcs.ext (x0.trans y1)) HR.out)
  go_wp2_with fail
  refine HCK.out.mono ?_
  rintro e w2 ⟨v2, rfl, hown2, x2⟩
  obtain ⟨A2, c2, rfl, _⟩ := own_form hown2
  have y2 := y1.trans x2
  have HF2 : Hid (LieF w2 ⟨3, 2, 0, A2, (chput ch).length, c2, chput ch⟩) := Lib.hid (LieF.of_own (B := w1.heap.size) ⟨hown2, show (0 : Nat) < 18446744073709551616 by decide⟩)
  have HD3 := Lib.hid (HD1.out.ext x2)
  generalize chput ch = bs at *
  clear HCK hown2 x2 HD1 q2 y1 hcs
  go_wp2_with fail
  refine (image_text _ _ _ _ _).mono ?_
  rintro e w3 ⟨rfl, x3⟩
  have y3 := y2.trans x3
  have HD4 := Lib.hid (HD3.out.ext x3)
  have HF3 := Lib.hid (HF2.out.ext x3)
  have hrow4 := HD4.out.row
  have hd2 := HD2.out
  have hs3 := y3.size
  clear y2 x3 HD3 HF2
  go_upto_region 4 with (at_builtin; refine wpList_app fieldsT (by omega) _ rfl rfl rfl (hrow4.alloc _) rfl (rd_at4 _ (.int .i64 3) (.int .i64 2) (.int .u64 0) (.slice A2 bs.length c2) _ _ (by simp)) (fcells_one _ _ _ _ _ _) (by unfold maxLen; omega) (by omega) (by simp; omega) ?_; intro v4 w4 hown4 hg4 hat4)
  have y4 : Ext W0 w4 := Below.app (y3.alloc _) hg4 (by simp; omega) (hrow4.alloc _) (Nat.le_refl _)
  have HD5 := Lib.hid (RowL.app (HD4.out.ext ((Ext.refl w3).alloc _)) (HF3.out.ext ((Ext.refl w3).alloc (.cells #[.int .i64 3, .int .i64 2, .int .u64 0, .slice A2 bs.length c2] 54))) hg4 hown4)
  have HS5 : Hid ((d1 ++ [(⟨3, 2, 0, A2, bs.length, c2, bs⟩ : FV)]).map FV.s = (d1 ++ [tfv 3 2 0 bs]).map FV.s) := Lib.hid (by rw [List.map_append, List.map_append]; rfl)
  have HL5 : Hid ((d1 ++ [(⟨3, 2, 0, A2, bs.length, c2, bs⟩ : FV)]).length ≤ 3) := Lib.hid (by rw [List.length_append]; have := HD2.out; simp; omega)
  generalize (d1 ++ [(⟨3, 2, 0, A2, bs.length, c2, bs⟩ : FV)]) = D5 at *
  generalize d1 ++ [tfv 3 2 0 bs] = P5 at *
  have q3 := (hB0.ext y4).cell 3
  simp only [List.getElem?_cons_zero, List.getElem?_cons_succ] at q3
  clear hown4 hg4 hat4 hrow4 HD4 HF3 y3 hs3 HD2 hd2 HCH
  go_cut [32] (fun s wx => s = .bool (decide (2 ≤ ver) && held) ∧ w4 = wx)
  case first =>
    by_cases hv : 2 ≤ ver
    · have hv' := dec_t hv
      go_wp2_with fail
      go_meet
      exact ⟨by rw [hv']; rfl, rfl⟩
    · have hv' := dec_f hv
      go_wp2_with fail
      go_meet
      exact ⟨by rw [hv']; rfl, rfl⟩
  case rest =>
    obtain ⟨rfl, rfl⟩ := hcut
    have HB4 : Hid (H4 = if (decide (2 ≤ ver) && held) = true then [tfv 4 0 1 []] else []) := Lib.hid (by rw [HHELD.out]; simp only [Bool.and_eq_true, decide_eq_true_eq])
    generalize (decide (2 ≤ ver) && held) = b4 at *
    clear HHELD q3
    go_upto_if 32 with (fail)
    go_cut [7] (fun s7 wx => ∃ D : List FV, D.map FV.s = (P5 ++ H4).map FV.s ∧ D.length ≤ 4 ∧ RowL wx W0.heap.size s7 D ∧ Ext W0 wx)
    case first =>
      clear HE HPART HTAG HST hte HR HID
      rcases b4 with _ | _
      · go_wp2_with fail
        go_meet
        exact ⟨D5, by rw [HB4.out, List.map_append, HS5.out]; simp, by have := HL5.out; omega, HD5.out, y4⟩
      · go_wp2_with fail
        refine (image_number_41 _).mono ?_
        rintro e w5 ⟨rfl, x5⟩
        have y5 := y4.trans x5
        have HD6 := Lib.hid (HD5.out.ext x5)
        have hrow5 := HD6.out.row
        have hd5 := HL5.out
        have hs5 := y5.size
        clear y4 HD5
        go_wp2_with (at_builtin; refine wpList_app fieldsT (by omega) _ rfl rfl rfl (hrow5.alloc _) rfl (rd_at4 _ (.int .i64 4) (.int .i64 0) (.int .u64 1) (.slice none 0 0) _ _ (by simp)) (fcells_one 4 0 1 none 0 0) (by unfold maxLen; omega) (by omega) (by simp; omega) ?_; intro v6 w6 hown6 hg6 hat6)
        go_meet
        refine ⟨D5 ++ [⟨4, 0, 1, none, 0, 0, []⟩], ?_, by simp; omega, RowL.app (f := ⟨4, 0, 1, none, 0, 0, []⟩) (HD6.out.ext ((Ext.refl w5).alloc _)) ((LieF.none_ w5 4 0 1 (by unfold U64; omega)).ext ((Ext.refl w5).alloc (.cells #[.int .i64 4, .int .i64 0, .int .u64 1, .slice none 0 0] 54))) hg6 hown6, Below.app (y5.alloc _) hg6 (by simp; omega) (hrow5.alloc _) (Nat.le_refl _)⟩
        rw [HB4.out, List.map_append, HS5.out, if_pos trivial, List.map_append]; rfl
    case rest =>
      obtain ⟨D6, hs6, hl6, hD6, y6⟩ := hcut
      have HD6 := Lib.hid hD6
      have HS6 := Lib.hid hs6
      clear hD6 hs6 y4 HD5 HS5 HL5 HB4
      rename World => w6
      have q4 := (hB0.ext y6).cell 4
      simp only [List.getElem?_cons_zero, List.getElem?_cons_succ] at q4
      go_upto_region 6 with (fail)
      go_cut [43] (fun s wx => s = .bool (decide (3 ≤ ver) && !decide (tag = ⟨#[]⟩)) ∧ w6 = wx)
      case first =>
        clear HE HPART HTAG HST HR HID HD6 HS6
        by_cases hv : 3 ≤ ver
        · have hv' := dec_t hv
          rcases hte with rfl | hte
          · go_wp2_with fail
            go_meet
            exact ⟨by simp [hv'], rfl⟩
          · have hne : tag ≠ ⟨#[]⟩ := fun e => hte.1 (by rw [e, ByteArray.toList_eq])
            have Hne := Lib.hid hne
            have h1 : ¬ tag.toList = [] := fun e => hte.1 e
            have h2 : tag.toList.isEmpty = false := by simpa using h1
            clear hte hne
            go_wp2_with fail
            go_meet
            exact ⟨by simp [hv', Hne.out], rfl⟩
        · have hv' := dec_f hv
          clear hte
          go_wp2_with fail
          go_meet
          exact ⟨by simp [hv'], rfl⟩
      case rest =>
        obtain ⟨rfl, rfl⟩ := hcut
        have HB5 : Hid (H5 = if (decide (3 ≤ ver) && !decide (tag = ⟨#[]⟩)) = true then [tfv 5 2 0 tag.data.toList] else []) := Lib.hid (by rw [HTAG.out]; simp only [Bool.and_eq_true, decide_eq_true_eq, Bool.not_eq_true', decide_eq_false_iff_not])
        generalize (decide (3 ≤ ver) && !decide (tag = ⟨#[]⟩)) = b5 at *
        clear HTAG hte
        go_upto_if 43 with (fail)
        go_cut [7] (fun s7 wx => ∃ D : List FV, D.map FV.s = (P5 ++ H4 ++ H5).map FV.s ∧ D.length ≤ 5 ∧ RowL wx W0.heap.size s7 D ∧ Ext W0 wx)
        case first =>
          clear HE HPART HR HID
          rcases b5 with _ | _
          · clear HST
            go_wp2_with fail
            go_meet
            exact ⟨D6, by rw [HB5.out, List.map_append, HS6.out]; simp, by omega, HD6.out, y6⟩
          · obtain ⟨ct, WT, HT1, HT2, HT3, HT4, HT5⟩ := HST.out w6
            have HTL := Lib.hid (HT3 5 2)
            have y6t := y6.trans HT2
            have HD6t := Lib.hid (HD6.out.ext HT2)
            have HTX := Lib.hid HT2
            have HTS : Hid (tag.size = tag.data.toList.length) := Lib.hid (tag_len_ tag)
            clear HT3 HST HT2 HD6
            go_wp2_with fail
            refine (image_text _ _ _ _ _).mono ?_
            rintro e w7 ⟨rfl, x7⟩
            have y7 := y6t.trans x7
            have HD7 := Lib.hid (HD6t.out.ext x7)
            have HTL7 := Lib.hid (HTL.out.ext x7)
            have hrow7 := HD7.out.row
            have hs7 := y7.size
            clear y6 y6t HT1
            go_wp2_with (at_builtin; refine wpList_app fieldsT (by omega) _ rfl rfl rfl (hrow7.alloc _) rfl (rd_at4 _ (.int .i64 5) (.int .i64 2) (.int .u64 0) (.slice (some ⟨w6.heap.size, 0, none⟩) tag.size ct) _ _ (by simp)) (fcells_one 5 2 0 _ _ _) (by unfold maxLen; omega) (by omega) (by simp; omega) ?_; intro v8 w8 hown8 hg8 hat8)
            go_meet
            refine ⟨D6 ++ [⟨5, 2, 0, some ⟨w6.heap.size, 0, none⟩, tag.size, ct, tag.data.toList⟩], ?_, by simp; omega, RowL.app (f := ⟨5, 2, 0, some ⟨w6.heap.size, 0, none⟩, tag.size, ct, tag.data.toList⟩) (HD7.out.ext ((Ext.refl w7).alloc _)) (HTL7.out.ext ((Ext.refl w7).alloc (.cells #[.int .i64 5, .int .i64 2, .int .u64 0, .slice (some ⟨w6.heap.size, 0, none⟩) tag.size ct] 54))) hg8 hown8, Below.app (y7.alloc _) hg8 (by simp; omega) (hrow7.alloc _) (Nat.le_refl _)⟩
            rw [HB5.out, List.map_append, HS6.out, if_pos trivial, List.map_append (l₂ := [tfv 5 2 0 tag.data.toList])]
            simp only [List.map_cons, List.map_nil, FV.s, tfv, HTS.out]
            rfl
        case rest =>
          obtain ⟨D7, hs7, hl7, hD7, y7⟩ := hcut
          have HD7 := Lib.hid hD7
          have HS7 := Lib.hid hs7
          have hrow7 := hD7.row
          have hrs := hrest.ext (x0.trans y7)
          have hrl := hrs.len
          have HX0 := Lib.hid x0
          clear hD7 hs7 y6 HD6 HS6 HB5 x0 q4
          rename World => w7
          have hsz7 := y7.size
          go_upto_region 8 with (fail)
          go_wp2_with (at_builtin; refine wpList_app fieldsT (by omega) _ rfl rfl rfl hrow7 rfl hrs.rd (rowOf_cells _) (by unfold maxLen; omega) (by omega) hsz7 ?_; intro v9 w9 hown9 hg9 hat9; obtain ⟨A9, c9, rfl, _⟩ := own_form hown9)
          have y9 : Ext W0 w9 := Below.app y7 hg9 hsz7 hrow7 (Nat.le_refl _)
          refine (HE.out _ _).2 ⟨A9, D7.length + m, c9, D7 ++ rest, rfl, Fs.of_own (own_to hown9 (Nat.le_refl _) rfl (by rw [rowOf_append])) ?_, ?_, by omega, HX0.out.trans y9⟩
          · intro f hf
            rcases List.mem_append.1 hf with hf | hf
            · exact ((HD7.out.lie f hf).grown hrow7 hg9).ok
            · exact (hrest.ok f hf).ext (HX0.out.trans y9)
          · rw [HPART.out, List.map_append, HS7.out, ← List.map_append]
end Go.Proofs.YtiildgoaiookhaaGreat

/- The walks of numbers, bytes, Of, wrong of coracleref10, and of coracleref05.Chunks. -/
namespace Go.Proofs.YtiildgoaiookhaaGreat
open Go.RowKit

theorem grown_alloc {w w' : World} {o : Obj} {row : Option Nat} (h : (w.alloc o).grownBy w' row) : w.grownBy w' row := World.grownBy.trans (grownBy_ext ((Ext.refl w).alloc o) row) h
theorem U64.of62 {m : Nat} (h : (m : Int) ≤ 4611686018427387904) : U64 m := by unfold U64; omega
set_option maxRecDepth 100000 in
set_option maxHeartbeats 800000 in
theorem ref10_numbers (A : Option Addr) (n c : Nat) (l : List Int) (w : World) (h : Is w A n l) (hn : n ≤ 1000) (h0 : ∀ x ∈ l, 0 ≤ x ∧ x ≤ 4611686018427387904) :
    Calls Tryz.prog 54 #[.slice A n c] w fun e w' => ∃ v, e = .returned v ∧ w'.ownsRow w.heap.size 54 4 v (numF 1 l).length (rowOf (numF 1 l)) ∧ Ext w w' := by
  have hlen := h.len
  have hE := own_empty w 54 4
  go_enter Tryz.func54, Tryz.ntmps54
  go_wp2_with fail
  go_loopw [3, 4] (fun v i wr => ∃ j : Nat, i = .int .i64 j ∧ j ≤ n ∧ wr.ownsRow w.heap.size 54 4 v (numF 1 (l.take j)).length (rowOf (numF 1 (l.take j))) ∧ Ext w wr) (fun _ i _ => n - (intOf i).toNat)
  case atStart => exact ⟨0, rfl, by omega, hE, (Ext.refl w).alloc _⟩
  case round =>
    clear hE
    obtain ⟨j, rfl, hj, hown, hx⟩ := hrel
    obtain ⟨v3, rfl⟩ : ∃ v3 : Value, v3 = u3 := ⟨_, rfl⟩
    by_cases hjn : j < n
    · have hjl : j < l.length := by omega
      obtain ⟨b, off, rfl, hc⟩ := (h.ext hx).at_ hjn
      have hb := h0 l[j] (List.getElem_mem _)
      have Hsn := Lib.hid (numF_take l j hjl)
      have hnl := numF_len (l.take j) 1
      have htl : (l.take j).length ≤ 1000 := by rw [List.length_take]; omega
      have hj0 : (0 : Int) ≤ j := by omega
      have hj1 : (j : Int) < n := by omega
      generalize l[j] = x at *
      obtain ⟨m, rfl⟩ : ∃ m : Nat, x = m := ⟨x.toNat, by omega⟩
      by_cases hz : m = 0
      · subst hz
        have hb0 := bne_f (show (((0 : Nat) : Int)) = 0 from rfl)
        have HO := Lib.hid hown
        clear hown
        go_wp2_with fail
        go_roundw
        case rel => exact ⟨j + 1, val_int (by omega), by omega, own_to HO.out (Nat.le_refl _) (by rw [Hsn.out]; simp) (by rw [Hsn.out]; simp), hx⟩
        case measure => simp [intOf]; omega
      · have hb0 := bne_t (show ((m : Nat) : Int) ≠ 0 by omega)
        have hwr : IntKind.u64.wrap (m : Int) = m := (U64.of62 hb.2).wrap
        have Hz := Lib.hid hz
        have hszw := hx.size
        clear hz hb
        go_wp2_with (at_builtin; refine wpList_app fieldsT (by omega) _ rfl rfl rfl (hown.alloc _) rfl (rd_at4 _ (.int .i64 ((j : Int) + 1)) (.int .i64 0) (.int .u64 m) (.slice none 0 0) _ _ (by simp)) (fcells_one _ _ _ _ _ _) (by unfold maxLen; omega) (by omega) (by simp; omega) ?_; intro v1 w1 hown1 hg1 hat1)
        have x1 := Below.app (hx.alloc _) hg1 (by simp; omega) (hown.alloc _) (Nat.le_refl _)
        go_roundw
        case rel => exact ⟨j + 1, val_int (by omega), by omega, own_to hown1 (Nat.le_refl _) (by rw [Hsn.out, if_neg (by have := Hz.out; omega)]; simp) (by rw [Hsn.out, if_neg (by have := Hz.out; omega), rowOf_append, rowOf_one]; simp [FV.cells, tfv]), x1⟩
        case measure => simp [intOf]; omega
    · obtain rfl : n = j := by omega
      have HO := Lib.hid (own_to (ys := rowOf (numF 1 l)) (n' := (numF 1 l).length) hown (Nat.le_refl _) (by rw [List.take_of_length_le (by omega)]) (by rw [List.take_of_length_le (by omega)]))
      clear hown
      go_wp2_with fail
      go_ret
      exact ⟨_, rfl, HO.out, hx⟩

/-- a field of bytes, if there are some -/
def optB (num : Nat) (bs : List UInt8) : List FV := if bs = [] then [] else [tfv num 2 0 bs]
/-- what bytes leaves -/
def BytesPost (num : Nat) (bs : List UInt8) (v : Value) (S : List FV) (B : Nat) (w : World) (e : Ending) (w' : World) : Prop :=
  ∃ v' d', e = .returned v' ∧ RowL w' B v' d' ∧ d'.map FV.s = (S ++ optB num bs).map FV.s ∧ w.grownBy w' v.ownBlock ∧ Below B w w'
set_option maxRecDepth 100000 in
set_option maxHeartbeats 800000 in
theorem ref10_bytes (v : Value) (d S : List FV) (num' : Int) (num : Nat) (hk : num' = num) (A : Option Addr) (n c : Nat) (bs : List UInt8) (w : World) (B : Nat) (hR : RowL w B v d) (hdS : d.map FV.s = S.map FV.s) (hB : B ≤ w.heap.size) (hd : d.length ≤ 20000) (hf : LieF w ⟨num, 2, 0, A, n, c, bs⟩) :
    Calls Tryz.prog 56 #[v, .int .i64 num', .slice A n c] w (BytesPost num bs v S B w) := by
  subst hk
  have HE : Hid (∀ (W : World) (e : Ending), BytesPost num bs v S B w e W ↔ ∃ v' d', e = .returned v' ∧ RowL W B v' d' ∧ d'.map FV.s = (S ++ optB num bs).map FV.s ∧ w.grownBy W v.ownBlock ∧ Below B w W) := Lib.hid fun _ _ => Iff.rfl
  have hbl := hf.ok.bs.len
  dsimp only at hbl
  have hrow := hR.row
  have HR := Lib.hid hR
  have HS := Lib.hid hdS
  have HF := Lib.hid hf
  clear hR hf hdS
  by_cases h0 : n = 0
  · have he : optB num bs = [] := by unfold optB; rw [if_pos (List.eq_nil_of_length_eq_zero (by omega))]
    have HO := Lib.hid he
    subst h0
    clear he hbl
    obtain ⟨Av, cv, rfl, _⟩ := own_form hrow
    clear hrow
    go_enter Tryz.func56, Tryz.ntmps56
    go_wp2_with fail
    go_ret
    exact (HE.out _ _).2 ⟨_, d, rfl, HR.out, by rw [HO.out, List.append_nil]; exact HS.out, World.grownBy.refl _ _, Below.refl _ _⟩
  · have he : optB num bs = [tfv num 2 0 bs] := by unfold optB; rw [if_neg (by intro e; rw [e] at hbl; simp at hbl; omega)]
    have HO := Lib.hid he
    have HL := Lib.hid hbl
    have hb0 := beq_f (show ((n : Nat) : Int) ≠ 0 by omega)
    clear he hbl h0
    go_enter Tryz.func56, Tryz.ntmps56
    go_wp2_with (at_builtin; refine wpList_app fieldsT (by omega) _ rfl rfl rfl (hrow.alloc _) rfl (rd_at4 _ (.int .i64 num) (.int .i64 2) (.int .u64 0) (.slice A n c) _ _ (by simp)) (fcells_one num 2 0 A n c) (by unfold maxLen; omega) (by omega) (by simp; omega) ?_; intro v1 w1 hown1 hg1 hat1)
    have x1 := Below.app (Below.alloc (Below.refl B w) hB _) hg1 (by simp; omega) (hrow.alloc _) (Nat.le_refl _)
    have xa := (Ext.refl w).alloc (.cells #[.int .i64 num, .int .i64 2, .int .u64 0, .slice A n c] 54)
    have hR1 := (HR.out.ext xa).app (f := ⟨num, 2, 0, A, n, c, bs⟩) (HF.out.ext xa) hg1 hown1
    go_wp2_with fail
    go_ret
    refine (HE.out _ _).2 ⟨_, _, rfl, hR1, ?_, grown_alloc hg1, x1⟩
    rw [HO.out, List.map_append, List.map_append, HS.out]
    simp only [List.map_cons, List.map_nil, FV.s, tfv, HL.out]
    rfl

set_option maxRecDepth 100000 in
set_option maxHeartbeats 800000 in
theorem ref10_wrong (kind ver : Int) (A : Option Addr) (n c : Nat) (l : List FV) (b : Bool) (hb : lowK (topL (specL kind ver)) l = b) (w : World) (hf : Fs w A n l) (hn : n ≤ 1000000) :
    Calls Tryz.prog 53 #[.slice A n c, .int .i64 kind, .int .i64 ver] w fun e w' => e = .returned (.bool b) ∧ Ext w w' := by
  have hlen := hf.len
  have CT := Lib.hid (fun w => ref04_Top kind ver w)
  generalize topL (specL kind ver) = K at *
  have HB := Lib.hid hb
  clear hb
  go_enter Tryz.func53, Tryz.ntmps53
  go_wp2_with fail
  go_loopw [7] (fun i wr => ∃ j : Nat, i = .int .i64 j ∧ j ≤ n ∧ Hid (lowK K (l.take j) = false) ∧ Ext w wr) (fun i _ => n - (intOf i).toNat)
  case atStart => exact ⟨0, rfl, by omega, Lib.hid rfl, Ext.refl w⟩
  case round =>
    obtain ⟨j, rfl, hj, HJ, hxr⟩ := hrel
    by_cases hjn : j < n
    · have hjl : j < l.length := by omega
      obtain ⟨bb, off, rfl, hc0, hc1, hc2, hc3⟩ := (hf.ext hxr).at_ hjn
      have Hsn := Lib.hid (lowK_snoc K l j hjl)
      have Hin : Hid (l[j] ∈ l) := Lib.hid (List.getElem_mem _)
      generalize l[j] = f at *
      have hj0 : (0 : Int) ≤ j := by omega
      have hj1 : (j : Int) < n := by omega
      by_cases h10 : f.num ≤ K
      · have hbt : b = true := by
          rw [← HB.out]
          unfold lowK
          rw [List.any_eq_true]
          exact ⟨f, Hin.out, by simpa using h10⟩
        subst hbt
        go_upto_region 4 with fail
        go_region_held3 (fun w' => w'.cell? ⟨bb, off + j * 4, none⟩ = some (.int .i64 f.num))
          (first | go_keep | (exact y1.cell hc0))
          (first | (go_at_call 21; refine (CT.out _).mono ?_; rintro e w2 ⟨rfl, y1⟩))
        go_wp2_with fail
        go_ret
        exact ⟨rfl, (hxr.drew).trans y1⟩
      · have h10' : (K : Int) < f.num := by omega
        have H10 := Lib.hid h10
        clear h10
        go_upto_region 4 with fail
        go_region_held3 (fun w' => w'.cell? ⟨bb, off + j * 4, none⟩ = some (.int .i64 f.num))
          (first | go_keep | (exact y1.cell hc0))
          (first | (go_at_call 21; refine (CT.out _).mono ?_; rintro e w2 ⟨rfl, y1⟩))
        go_wp2_with fail
        go_roundw
        case rel => exact ⟨j + 1, val_int (by omega), by omega, Lib.hid (by rw [Hsn.out, HJ.out]; simpa using H10.out), (hxr.drew).trans y1⟩
        case measure => simp [intOf]; omega
    · obtain rfl : n = j := by omega
      have hbf : b = false := by
        have e := HJ.out
        rw [List.take_of_length_le (by omega), HB.out] at e
        exact e
      subst hbf
      go_wp2_with fail
      go_ret
      exact ⟨rfl, hxr⟩

/-- what Of leaves -/
def OfPost (x : XV) (i : Nat) (w : World) (e : Ending) (w' : World) : Prop := ∃ A n c, e = .returned (.slice A n c) ∧ Fs w A n (ofM x.more i) ∧ n ≤ 18000 ∧ Ext w w'
set_option maxRecDepth 100000 in
set_option maxHeartbeats 800000 in
theorem ref10_Of (x : XV) (i : Nat) (w : World) (hx : x.Ok w) (hf : x.Few) :
    Calls Tryz.prog 27 #[x.val, .int .i64 i] w (OfPost x i w) := by
  have ht2 := hx.t2
  have hl2 := hx.t2.len
  have f2 := hf.n2
  have fl := hf.ln
  clear hx hf
  have HE : Hid (∀ (W : World) (e : Ending), OfPost x i w e W ↔ ∃ A n c, e = .returned (.slice A n c) ∧ Fs w A n (ofM x.more i) ∧ n ≤ 18000 ∧ Ext w W) := Lib.hid fun _ _ => Iff.rfl
  generalize OfPost x i w = POST at *
  unfold XV.more at HE
  unfold XV.val
  obtain ⟨A1, n1, c1, top, A2, n2, c2, more⟩ := x
  dsimp only at *
  have hi0 : (0 : Int) ≤ i := by omega
  go_enter Tryz.func27, Tryz.ntmps27
  by_cases hi : i < n2
  · have hil : i < more.length := by omega
    obtain ⟨bb, off, rfl, hc⟩ := Wss.cell ht2 hi hil
    have hok := ht2.ok more[i] (List.getElem_mem _)
    have hln := fl more[i] (List.getElem_mem _)
    have HF : Hid (Fs w more[i].A more[i].len (ofM (more.map WV.l) i)) := Lib.hid (by
      unfold ofM
      rw [List.getElem?_map, List.getElem?_eq_getElem hil]
      exact hok.fs)
    generalize more[i] = f at *
    have hi1 : (i : Int) < n2 := by omega
    have hc' : (w.alloc (.cells #[.slice A1 n1 c1, .slice (some ⟨bb, off, none⟩) n2 c2] 33)).cell? ⟨bb, off + i, none⟩ = some (.slice f.A f.len f.cap) := Ext.cell ((Ext.refl w).alloc _) hc
    clear hok fl hc ht2 hl2 hil hi
    go_wp2_with fail
    exact (HE.out _ _).2 ⟨_, _, _, rfl, HF.out, hln, (Ext.refl w).alloc _⟩
  · have hi1 : ¬ (i : Int) < n2 := by omega
    have HF : Hid (ofM (more.map WV.l) i = []) := Lib.hid (by
      unfold ofM
      rw [List.getElem?_eq_none (by simp; omega)]; rfl)
    clear ht2 hl2 hi fl
    go_wp2_with fail
    exact (HE.out _ _).2 ⟨none, 0, 0, rfl, by rw [HF.out]; exact Fs.nil_ _ _, by omega, (Ext.refl w).alloc _⟩
end Go.Proofs.YtiildgoaiookhaaGreat

/- The walks of coracleref10.number and data. -/
namespace Go.Proofs.YtiildgoaiookhaaGreat
open Go.RowKit

set_option maxRecDepth 100000 in
set_option maxHeartbeats 800000 in
theorem ref10_number (A : Option Addr) (n c : Nat) (l : List FV) (k : Int) (w : World) (hf : Fs w A n l) (hn : n ≤ 1000000) :
    Calls Tryz.prog 19 #[.slice A n c, .int .i64 k] w fun e w' => e = .returned (.int .i64 (dnum l k)) ∧ Ext w w' := by
  have hlen := hf.len
  obtain ⟨d, hd⟩ : ∃ d, d = dnum l k := ⟨_, rfl⟩
  rw [← hd]
  have HD := Lib.hid hd
  clear hd
  go_enter Tryz.func19, Tryz.ntmps19
  go_wp2_with fail
  go_loopw [5] (fun i wr => ∃ j : Nat, i = .int .i64 j ∧ j ≤ n ∧ Hid (d = dnum (l.drop j) k) ∧ Ext w wr) (fun i _ => n - (intOf i).toNat)
  case atStart => exact ⟨0, rfl, by omega, Lib.hid HD.out, Ext.refl w⟩
  case round =>
    obtain ⟨j, rfl, hj, HJ, hxr⟩ := hrel
    by_cases hjn : j < n
    · have hjl : j < l.length := by omega
      obtain ⟨bb, off, rfl, hc0, hc1, hc2, hc3⟩ := (hf.ext hxr).at_ hjn
      have hok := hf.ok l[j] (List.getElem_mem _)
      have HS : Hid (d = if l[j].num = k then ((min l[j].n 1048577 : Nat) : Int) else dnum (l.drop (j + 1)) k) := Lib.hid (by rw [HJ.out, List.drop_eq_getElem_cons hjl, dnum_cons])
      have hu := hok.u.lt
      clear hok
      generalize l[j] = f at *
      have hj0 : (0 : Int) ≤ j := by omega
      have hj1 : (j : Int) < n := by omega
      by_cases h10 : f.num = k
      · by_cases hm : f.n ≤ 1048577
        · have hdv : d = (f.n : Int) := by rw [HS.out, if_pos h10]; omega
          have hmi : (f.n : Int) ≤ 1048577 := by omega
          subst hdv
          go_wp2_with fail
          go_ret
          exact ⟨rfl, hxr⟩
        · have hdv : d = 1048577 := by rw [HS.out, if_pos h10]; omega
          have hmi : ¬ (f.n : Int) ≤ 1048577 := by omega
          subst hdv
          go_wp2_with fail
          go_ret
          exact ⟨rfl, hxr⟩
      · have HS2 : Hid (d = dnum (l.drop (j + 1)) k) := Lib.hid (by rw [HS.out, if_neg h10])
        go_wp2_with fail
        go_roundw
        case rel => exact ⟨j + 1, val_int (by omega), by omega, HS2, hxr⟩
        case measure => simp [intOf]; omega
    · obtain rfl : n = j := by omega
      have hd0 : d = 0 := by
        have e := HJ.out
        rw [List.drop_of_length_le (by omega)] at e
        exact e
      subst hd0
      go_wp2_with fail
      go_ret
      exact ⟨rfl, hxr⟩
set_option maxRecDepth 100000 in
set_option maxHeartbeats 800000 in
theorem ref10_data (A : Option Addr) (n c : Nat) (l : List FV) (k : Int) (w : World) (hf : Fs w A n l) (hn : n ≤ 1000000) :
    Calls Tryz.prog 23 #[.slice A n c, .int .i64 k] w fun e w' => ∃ A' n' c', e = .returned (.slice A' n' c') ∧ Bs w' A' n' (ddat l k) ∧ n' ≤ c' ∧ c' ≤ maxLen ∧ Ext w w' := by
  have hlen := hf.len
  obtain ⟨d, hd⟩ : ∃ d, d = ddat l k := ⟨_, rfl⟩
  rw [← hd]
  have HD := Lib.hid hd
  clear hd
  go_enter Tryz.func23, Tryz.ntmps23
  go_wp2_with fail
  go_loopw [5] (fun i wr => ∃ j : Nat, i = .int .i64 j ∧ j ≤ n ∧ Hid (d = ddat (l.drop j) k) ∧ Ext w wr) (fun i _ => n - (intOf i).toNat)
  case atStart => exact ⟨0, rfl, by omega, Lib.hid HD.out, Ext.refl w⟩
  case round =>
    obtain ⟨j, rfl, hj, HJ, hxr⟩ := hrel
    by_cases hjn : j < n
    · have hjl : j < l.length := by omega
      obtain ⟨bb, off, rfl, hc0, hc1, hc2, hc3⟩ := (hf.ext hxr).at_ hjn
      have HOK := Lib.hid ((hf.ok l[j] (List.getElem_mem _)).ext hxr)
      have HS : Hid (d = if l[j].num = k then l[j].b else ddat (l.drop (j + 1)) k) := Lib.hid (by rw [HJ.out, List.drop_eq_getElem_cons hjl, ddat_cons])
      generalize l[j] = f at *
      have hj0 : (0 : Int) ≤ j := by omega
      have hj1 : (j : Int) < n := by omega
      by_cases h10 : f.num = k
      · have hdv : d = f.b := by rw [HS.out, if_pos h10]
        have HX := Lib.hid (show Bs wr f.A f.len d by rw [hdv]; exact HOK.out.bs)
        clear hdv HS
        go_wp2_with fail
        go_ret
        exact ⟨_, _, _, rfl, HX.out, HOK.out.le, HOK.out.cap, hxr⟩
      · have HS2 : Hid (d = ddat (l.drop (j + 1)) k) := Lib.hid (by rw [HS.out, if_neg h10])
        go_wp2_with fail
        go_roundw
        case rel => exact ⟨j + 1, val_int (by omega), by omega, HS2, hxr⟩
        case measure => simp [intOf]; omega
    · obtain rfl : n = j := by omega
      have hd0 : d = [] := by
        have e := HJ.out
        rw [List.drop_of_length_le (by omega)] at e
        exact e
      subst hd0
      go_wp2_with fail
      go_ret
      exact ⟨none, 0, 0, rfl, Bs.nil_ _ _, Nat.le_refl _, by unfold maxLen; omega, hxr⟩
end Go.Proofs.YtiildgoaiookhaaGreat

/- The walks of coracleref05.Chunks and coracleref10.snap. -/
namespace Go.Proofs.YtiildgoaiookhaaGreat
open Go.RowKit

set_option maxRecDepth 100000 in
set_option maxHeartbeats 800000 in
theorem ref05_Chunks_no (A : Option Addr) (n c : Nat) (l : List Int) (w : World) (h : Is w A n l) (hn : n ≤ 1000000) (hr : rowChB l = false) :
    Calls Tryz.prog 51 #[.slice A n c] w fun e w' => e = .returned (.tuple #[.slice none 0 0, .int .i64 1]) ∧ Ext w w' := by
  have H := ref05_Row A n c l w h hn
  rw [hr] at H
  have HR := Lib.hid H
  clear H hr
  go_enter Tryz.func51, Tryz.ntmps51
  go_wp2_with fail
  refine HR.out.mono ?_
  rintro e w1 ⟨rfl, x1⟩
  go_wp2
  go_ret2
  exact ⟨rfl, x1⟩
set_option maxRecDepth 100000 in
set_option maxHeartbeats 800000 in
theorem ref05_Chunks_ok (A : Option Addr) (n c : Nat) (l : List Int) (w : World) (h : Is w A n l) (hr : rowChB l = true) :
    Calls Tryz.prog 51 #[.slice A n c] w fun e w' => ∃ v, e = .returned (.tuple #[v, .int .i64 0]) ∧ w'.ownsRow w.heap.size 5 1 v (chput l).length ((chput l).map bv) ∧ Ext w w' := by
  have hlen := h.len
  have hr2 := hr
  unfold rowChB at hr2
  simp only [Bool.and_eq_true, decide_eq_true_eq] at hr2
  have hup := upB_in hr2.2
  have hn8 : n ≤ 8 := by omega
  have H := ref05_Row A n c l w h (by omega)
  rw [hr] at H
  have HR := Lib.hid H
  have Hup := Lib.hid hup
  clear H hr hr2 hup
  go_enter Tryz.func51, Tryz.ntmps51
  go_wp2_with fail
  refine HR.out.mono ?_
  rintro e w1 ⟨rfl, x1⟩
  have h0 := own_base (own_empty w1 5 1) x1.size
  have h1 := h.ext x1
  go_wp2_with fail
  go_loopw [4, 5] (fun v i wr => ∃ j : Nat, i = .int .i64 j ∧ j ≤ n ∧ wr.ownsRow w.heap.size 5 1 v (chput (l.take j)).length ((chput (l.take j)).map bv) ∧ Ext w wr) (fun _ i _ => n - (intOf i).toNat)
  case atStart => exact ⟨0, rfl, by omega, by simpa [chput] using h0, x1.alloc _⟩
  case round =>
    clear h0 x1 h1
    obtain ⟨j, rfl, hj, hown, hx⟩ := hrel
    by_cases hjn : j < n
    · have hjl : j < l.length := by omega
      obtain ⟨bb, off, rfl, hc⟩ := (h.ext hx).at_ hjn
      have hxb := Hup.out l[j] (List.getElem_mem _)
      have hsn := chput_snoc l j hjl
      have hle : (chput (l.take j)).length ≤ (l.take j).length * 10 := chput_le (fun x hx => (Hup.out x (List.mem_of_mem_take hx)).2)
      have hle2 : (l.take j).length ≤ j := List.length_take_le _ _
      obtain ⟨x, hx0⟩ := Int.eq_ofNat_of_zero_le (show 0 ≤ l[j] by omega)
      rw [hx0] at hc hsn hxb
      have hU : U64 x := by unfold U64; omega
      have hQ : (vput x).length ≤ 10 := by rw [vput_len]; exact hU.size
      have HP := Lib.hid (ref01_Put x hU wr)
      rw [Int.toNat_natCast] at hsn
      generalize chput (l.take j) = R at *
      generalize vput x = V at *
      have Hsn := Lib.hid hsn
      have hsz := hx.size
      have hwx : IntKind.u64.wrap (x : Int) = x := hU.wrap
      clear hsn hx0
      go_wp2_with fail
      refine HP.out.mono ?_
      rintro e w2 ⟨v2, rfl, hown2, y2⟩
      obtain ⟨A2, k2, rfl, _⟩ := own_form hown2
      have b2 := Rd.of_own hown2
      have hown' := own_ext hown y2
      have hz2 := y2.size
      go_wp2_with (at_builtin; refine wpList_app bytesT (by omega) _ rfl rfl rfl hown' rfl b2 (bvs_one _) (by unfold maxLen; omega) (by omega) (by omega) ?_; intro v3 w3 hown3 hg3 hat3)
      go_roundw
      case rel => exact ⟨j + 1, val_int (by omega), by omega, own_to hown3 (Nat.le_refl _) (by rw [Hsn.out, List.length_append]) (by rw [Hsn.out, List.map_append]), Below.app (hx.trans y2) hg3 (by omega) hown' (Nat.le_refl _)⟩
      case measure => simp [intOf]; omega
    · obtain rfl : n = j := by omega
      rw [List.take_of_length_le (by omega)] at hown
      go_wp2
      go_ret2
      exact ⟨_, rfl, hown, hx⟩

theorem tag_opt (ver : Int) (f : NV) : tagF ver f = if 3 ≤ ver then optB 5 f.tag.data.toList else [] := by
  unfold tagF optB
  by_cases h : 3 ≤ ver
  · rw [if_pos h]
    by_cases ht : f.tag = ⟨#[]⟩
    · rw [if_neg (fun k => k.2 ht), ht]; rfl
    · rw [if_pos ⟨h, ht⟩, if_neg]
      intro e
      have h2 : f.tag = ⟨f.tag.data.toList.toArray⟩ := by simp
      exact ht (by rw [h2, e])
  · rw [if_neg h, if_neg (fun k => h k.1)]
theorem optB_len (num : Nat) (bs : List UInt8) : (optB num bs).length ≤ 1 := by unfold optB; split <;> simp
theorem optB_ne {num : Nat} {bs : List UInt8} (h : bs ≠ []) : optB num bs = [tfv num 2 0 bs] := by unfold optB; rw [if_neg h]
theorem s_len2 {l m : List FV} (h : l.map FV.s = m.map FV.s) : l.length = m.length := by have := congrArg List.length h; simpa using this
set_option maxRecDepth 100000 in
set_option maxHeartbeats 3200000 in
theorem ref10_snap (f : NV) (ver : Int) (A : Option Addr) (m c : Nat) (rest : List FV) (w : World) (hf : f.Ok w) (hr : rowChB f.ch = true) (hid : ∀ n ∈ [f.id, f.set], 0 ≤ n ∧ n ≤ 4611686018427387904) (ht : f.tag.size ≤ 16) (hrest : Fs w A m rest) (hm : m ≤ 18000) :
    Calls Tryz.prog 57 #[.agg #[.int .i64 f.id, .int .i64 f.set, .slice f.A f.len f.cap, .bool f.held, .string f.tag], .slice A m c, .int .i64 ver] w (SnapPost ver f rest m w) := by
  have HE : Hid (∀ (W : World) (e : Ending), SnapPost ver f rest m w e W ↔ ∃ (A : Option Addr) (n c : Nat) (D : List FV), e = .returned (.slice A n c) ∧ Fs W A n D ∧ D.map FV.s = (snpF ver f rest).map FV.s ∧ n ≤ m + 5 ∧ Ext w W) := Lib.hid fun _ _ => Iff.rfl
  have HPART := Lib.hid (snpF_parts ver f rest)
  have HHELD : Hid (heldF ver f = if 2 ≤ ver ∧ f.held = true then [tfv 4 0 1 []] else []) := Lib.hid rfl
  have HTAG := Lib.hid (tag_opt ver f)
  have HNE := Lib.hid (chput_ne hr)
  generalize heldF ver f = H4 at *
  generalize tagF ver f = H5 at *
  generalize SnapPost ver f rest m w = POST at *
  generalize snpF ver f rest = SN at *
  have hcs := hf.cs
  have HST := Lib.hid (str_bytes f.tag hf.ut)
  obtain ⟨id, set, fA, flen, fcap, ch, held, tag⟩ := f
  dsimp only at *
  have hB0 := Blk.new w 70 [.int .i64 id, .int .i64 set, .slice fA flen fcap, .bool held, .string tag]
  have x0 : Ext w (w.alloc (.cells #[.int .i64 id, .int .i64 set, .slice fA flen fcap, .bool held, .string tag] 70)) := (Ext.refl w).alloc _
  have HID := Lib.hid hid
  have HR := Lib.hid hr
  clear hf hid hr
  go_enter Tryz.func57, Tryz.ntmps57
  go_upto_region 1 with fail
  generalize hg : w.heap.size = g at hB0 ⊢
  generalize w.alloc (.cells #[.int .i64 id, .int .i64 set, .slice fA flen fcap, .bool held, .string tag] 70) = W0 at *
  clear hg
  have q0 := hB0.cell 0
  have q1 := hB0.cell 1
  simp only [List.getElem?_cons_zero, List.getElem?_cons_succ] at q0 q1
  go_wp2_with fail
  refine (ref10_numbers _ _ _ [id, set] _ (is_lit W0 [id, set] _ _ 2 _ rfl rfl (by simp)) (by omega) HID.out).mono ?_
  rintro e w1 ⟨v1, rfl, hown1, x1⟩
  have y1 := ((Ext.refl W0).alloc (.cells #[.int .i64 id, .int .i64 set] 3)).trans x1
  have HD1 := Lib.hid (numF_rowL (own_base (base' := W0.heap.size) hown1 (by simp)) HID.out)
  have HD2 : Hid ((numF 1 [id, set]).length ≤ 2) := Lib.hid (numF_len [id, set] 1)
  generalize numF 1 [id, set] = d1 at *
  have q2 := (hB0.ext y1).cell 2
  simp only [List.getElem?_cons_zero, List.getElem?_cons_succ] at q2
  clear q0 q1 hown1 x1
  have HCK := Lib.hid (ref05_Chunks_ok fA flen fcap ch w1 (hcs.ext (x0.trans y1)) HR.out)
  go_wp2_with fail
  refine HCK.out.mono ?_
  rintro e w2 ⟨v2, rfl, hown2, x2⟩
  obtain ⟨A2, c2, rfl, _⟩ := own_form hown2
  have y2 := y1.trans x2
  have HF2 : Hid (LieF w2 ⟨3, 2, 0, A2, (chput ch).length, c2, chput ch⟩) := Lib.hid (LieF.of_own (B := w1.heap.size) ⟨hown2, show (0 : Nat) < 18446744073709551616 by decide⟩)
  have HD3 := Lib.hid (HD1.out.ext x2)
  generalize chput ch = bs at *
  clear HCK hown2 x2 HD1 q2 y1 hcs
  have HBY := Lib.hid (ref10_bytes v1 d1 d1 3 3 rfl A2 bs.length c2 bs w2 W0.heap.size HD3.out rfl y2.size (by have := HD2.out; omega) HF2.out)
  unfold BytesPost at HBY
  rw [optB_ne HNE.out] at HBY
  go_wp2_with fail
  refine HBY.out.mono ?_
  rintro e w4 ⟨v4, D5, rfl, hD5, hS5, hg4, b4⟩
  have y4 : Ext W0 w4 := Below.trans y2 b4
  have HD5 := Lib.hid hD5
  have HS5 := Lib.hid hS5
  have HL5 : Hid (D5.length ≤ 3) := Lib.hid (by have := s_len2 hS5; rw [List.length_append] at this; have := HD2.out; simp at *; omega)
  generalize d1 ++ [tfv 3 2 0 bs] = P5 at *
  have q3 := (hB0.ext y4).cell 3
  simp only [List.getElem?_cons_zero, List.getElem?_cons_succ] at q3
  clear HBY HF2 HD3 HD2 hg4 b4 y2 hD5 hS5 HNE
  go_upto_region 4 with (fail)
  go_cut [30] (fun s wx => s = .bool (decide (2 ≤ ver) && held) ∧ w4 = wx)
  case first =>
    by_cases hv : 2 ≤ ver
    · have hv' := dec_t hv
      go_wp2_with fail
      go_meet
      exact ⟨by rw [hv']; rfl, rfl⟩
    · have hv' := dec_f hv
      go_wp2_with fail
      go_meet
      exact ⟨by rw [hv']; rfl, rfl⟩
  case rest =>
    obtain ⟨rfl, rfl⟩ := hcut
    have HB4 : Hid (H4 = if (decide (2 ≤ ver) && held) = true then [tfv 4 0 1 []] else []) := Lib.hid (by rw [HHELD.out]; simp only [Bool.and_eq_true, decide_eq_true_eq])
    generalize (decide (2 ≤ ver) && held) = b4 at *
    clear HHELD q3
    go_upto_if 30 with (fail)
    go_cut [7] (fun s7 wx => ∃ D : List FV, D.map FV.s = (P5 ++ H4).map FV.s ∧ D.length ≤ 4 ∧ RowL wx W0.heap.size s7 D ∧ Ext W0 wx)
    case first =>
      clear HE HPART HTAG HST HR HID
      rcases b4 with _ | _
      · go_wp2_with fail
        go_meet
        exact ⟨D5, by rw [HB4.out, List.map_append, HS5.out]; simp, by have := HL5.out; omega, HD5.out, y4⟩
      · have hrow5 := HD5.out.row
        have hd5 := HL5.out
        have hs5 := y4.size
        go_wp2_with (at_builtin; refine wpList_app fieldsT (by omega) _ rfl rfl rfl (hrow5.alloc _) rfl (rd_at4 _ (.int .i64 4) (.int .i64 0) (.int .u64 1) (.slice none 0 0) _ _ (by simp)) (fcells_one 4 0 1 none 0 0) (by unfold maxLen; omega) (by omega) (by simp; omega) ?_; intro v6 w6 hown6 hg6 hat6)
        go_meet
        refine ⟨D5 ++ [⟨4, 0, 1, none, 0, 0, []⟩], ?_, by simp; omega, RowL.app (f := ⟨4, 0, 1, none, 0, 0, []⟩) (HD5.out.ext ((Ext.refl w4).alloc _)) ((LieF.none_ w4 4 0 1 (by unfold U64; omega)).ext ((Ext.refl w4).alloc (.cells #[.int .i64 4, .int .i64 0, .int .u64 1, .slice none 0 0] 54))) hg6 hown6, Below.app (y4.alloc _) hg6 (by simp; omega) (hrow5.alloc _) (Nat.le_refl _)⟩
        rw [HB4.out, List.map_append, HS5.out, if_pos trivial, List.map_append]; rfl
    case rest =>
      obtain ⟨D6, hs6, hl6, hD6, y6⟩ := hcut
      have HD6 := Lib.hid hD6
      have HS6 := Lib.hid hs6
      clear hD6 hs6 y4 HD5 HS5 HL5 HB4
      rename World => w6
      have q4 := (hB0.ext y6).cell 4
      simp only [List.getElem?_cons_zero, List.getElem?_cons_succ] at q4
      go_upto_if 36 with (fail)
      go_cut [7] (fun s7 wx => ∃ D : List FV, D.map FV.s = (P5 ++ H4 ++ H5).map FV.s ∧ D.length ≤ 5 ∧ RowL wx W0.heap.size s7 D ∧ Ext W0 wx)
      case first =>
        clear HE HPART HR HID
        by_cases hv : 3 ≤ ver
        · have HB5 : Hid (H5 = optB 5 tag.data.toList) := Lib.hid (by rw [HTAG.out, if_pos hv])
          have hvd := dec_t hv
          obtain ⟨ct, WT, HT1, HT2, HT3, HT4, HT5⟩ := HST.out w6
          have y6t := y6.trans HT2
          have HBY := Lib.hid (ref10_bytes u7 D6 (P5 ++ H4) 5 5 rfl (some ⟨w6.heap.size, 0, none⟩) tag.size ct tag.data.toList WT W0.heap.size (HD6.out.ext HT2) HS6.out y6t.size (by omega) (HT3 5 2))
          unfold BytesPost at HBY
          have HX6 := Lib.hid y6t
          clear HT3 HST HTAG HT2 HD6 y6 y6t
          go_wp2_with fail
          refine HBY.out.mono ?_
          rintro e w7 ⟨v7, D7, rfl, hD7, hS7, hg7, b7⟩
          have hl7 := s_len2 hS7
          have hl8 := s_len2 HS6.out
          have hl9 := optB_len 5 tag.data.toList
          rw [List.length_append, ← hl8] at hl7
          go_wp2_with fail
          go_meet
          exact ⟨D7, by rw [hS7, HB5.out], by omega, hD7, Below.trans HX6.out b7⟩
        · have HB5 : Hid (H5 = []) := Lib.hid (by rw [HTAG.out, if_neg hv])
          have hvd := dec_f hv
          clear HST HTAG
          go_wp2_with fail
          go_meet
          exact ⟨D6, by rw [HB5.out, HS6.out, List.append_nil], by omega, HD6.out, y6⟩
      case rest =>
        obtain ⟨D7, hs7, hl7, hD7, y7⟩ := hcut
        have HD7 := Lib.hid hD7
        have HS7 := Lib.hid hs7
        have hrow7 := hD7.row
        have hrs := hrest.ext (x0.trans y7)
        have hrl := hrs.len
        have HX0 := Lib.hid x0
        clear hD7 hs7 y6 HD6 HS6 HTAG x0 q4
        rename World => w7
        have hsz7 := y7.size
        go_upto_region 8 with (fail)
        go_wp2_with (at_builtin; refine wpList_app fieldsT (by omega) _ rfl rfl rfl hrow7 rfl hrs.rd (rowOf_cells _) (by unfold maxLen; omega) (by omega) hsz7 ?_; intro v9 w9 hown9 hg9 hat9; obtain ⟨A9, c9, rfl, _⟩ := own_form hown9)
        have y9 : Ext W0 w9 := Below.app y7 hg9 hsz7 hrow7 (Nat.le_refl _)
        refine (HE.out _ _).2 ⟨A9, D7.length + m, c9, D7 ++ rest, rfl, Fs.of_own (own_to hown9 (Nat.le_refl _) rfl (by rw [rowOf_append])) ?_, ?_, by omega, HX0.out.trans y9⟩
        · intro f hf
          rcases List.mem_append.1 hf with hf | hf
          · exact ((HD7.out.lie f hf).grown hrow7 hg9).ok
          · exact (hrest.ok f hf).ext (HX0.out.trans y9)
        · rw [HPART.out, List.map_append, HS7.out, ← List.map_append]
end Go.Proofs.YtiildgoaiookhaaGreat

/- The walks of coracleref05.Unchunk and coracleref10.record. -/
namespace Go.Proofs.YtiildgoaiookhaaGreat
open Go.RowKit

theorem ref03_Take_ownI (A : Option Addr) (n c : Nat) (l : List UInt8) (w : World) (hb : Bs w A n l) (hn : n ≤ 100000) (hnc : n ≤ c) :
    Calls Tryz.prog 48 #[.slice A n c] w fun e w' => ∃ A' c' ms, e = .returned (.tuple #[.slice A' ms.length c', .int .i64 (ttrow l).2]) ∧ OwnR w' w.heap.size (.slice A' ms.length c') ms ∧ ms.map FV.s = (ttrow l).1.map FV.s ∧ Ext w w' := by
  have hl := hb.len
  by_cases h : 16384 < n
  · refine (ref03_Take_big A n c w h).mono ?_
    rintro e w' ⟨rfl, hx⟩
    have : ttrow l = ([], 4) := by unfold ttrow; rw [if_pos (by omega)]
    rw [this]
    exact ⟨none, 0, [], rfl, ⟨World.ownsRow_nil _ _ _ _, by simp⟩, rfl, hx⟩
  · refine (ref03_Take A n c l w hb (by omega) hnc).mono ?_
    rintro e w' ⟨v, ms, rfl, hown, hof, hs, hx⟩
    have : ttrow l = trow none l := by unfold ttrow; rw [if_neg (by omega)]
    rw [this]
    obtain ⟨A', c', rfl, hc⟩ := own_form hown
    exact ⟨A', c', ms, rfl, ⟨hown, hof⟩, hs, hx⟩
theorem chput_nats : ∀ {b : List UInt8}, (∀ x ∈ natsOf b, x ≤ 64) → chput (natsOf b) = b
  | [], _ => rfl
  | a :: r, h => by
    have ha : ((a.toNat : Nat) : Int) ≤ 64 := h _ (by simp [natsOf])
    have ih := chput_nats (b := r) fun x hx => h x (by unfold natsOf at hx ⊢; exact List.mem_cons_of_mem _ hx)
    unfold chput natsOf at ih ⊢
    rw [List.map_cons, List.map_cons, List.flatten_cons, ih, vput_64 (by omega) ha]
    simp
set_option maxRecDepth 100000 in
set_option maxHeartbeats 1600000 in
theorem ref05_Unchunk (A : Option Addr) (n c : Nat) (b : List UInt8) (w : World) (hb : Bs w A n b) (hn : n ≤ 20000) (hnc : n ≤ c) : Calls Tryz.prog 22 #[.slice A n c] w (UnchPost b w) := by
  have HE : Hid (∀ (W : World) (e : Ending), UnchPost b w e W ↔ ∃ A c code, e = .returned (.tuple #[.slice A (unch b).length c, .int .i64 code]) ∧ W.ownsRow w.heap.size 3 1 (.slice A (unch b).length c) (unch b).length ((unch b).map (Value.int .i64)) ∧ Ext w W) := Lib.hid fun _ _ => Iff.rfl
  have HUN : Hid (unch b = if rowChB (natsOf b) = true then natsOf b else []) := Lib.hid rfl
  have HCP : Hid (rowChB (natsOf b) = true → chput (natsOf b) = b) := Lib.hid fun h => chput_nats fun x hx => (rowCh_in h x hx).2
  generalize UnchPost b w = POST at *
  generalize unch b = UB at *
  have hlen := hb.len
  have h0 := own_empty w 3 1
  go_enter Tryz.func22, Tryz.ntmps22
  go_wp2_with fail
  go_loopw [4, 5] (fun v i wr => ∃ j : Nat, i = .int .i64 j ∧ j ≤ n ∧ wr.ownsRow w.heap.size 3 1 v j ((natsOf (b.take j)).map (Value.int .i64)) ∧ Ext w wr) (fun _ i _ => n - (intOf i).toNat)
  case atStart => exact ⟨0, rfl, by omega, by simpa [natsOf] using h0, (Ext.refl w).alloc _⟩
  case round =>
    clear h0
    obtain ⟨j, rfl, hj, hown, hx⟩ := hrel
    obtain ⟨v4, rfl⟩ : ∃ v4 : Value, v4 = u4 := ⟨_, rfl⟩
    by_cases hjn : j < n
    · have hjl : j < b.length := by omega
      obtain ⟨bb, off, rfl, hc⟩ := (hb.ext hx).at_ hjn
      have Hsn := Lib.hid (natsOf_snoc b j hjl)
      have hj0 : (0 : Int) ≤ j := by omega
      have hj1 : (j : Int) < n := by omega
      have hsz := hx.size
      generalize b[j] = bj at *
      have hbj : bj.toNat < 256 := bj.toNat_lt
      have p1 : j + 1 ≤ maxLen := by unfold maxLen; omega
      have p2 : (j + 1) * 8 ≤ 140737488355328 := by omega
      have P3 := Lib.hid (fun (o : Obj) => (show w.heap.size ≤ (wr.alloc o).heap.size by simp; omega))
      go_wp2_with (at_builtin; refine wpList_app intsT Nat.one_pos _ rfl rfl rfl (hown.alloc _) rfl (rd_new1 _ _ _) (one1 rfl) p1 p2 (P3.out _) ?_; intro v1 w1 hown1 hg1 hat1)
      have x1 := Below.app (hx.alloc _) hg1 (P3.out _) (hown.alloc _) (Nat.le_refl _)
      go_roundw
      case rel => exact ⟨j + 1, val_int (by omega), by omega, own_to hown1 (Nat.le_refl _) rfl (by rw [Hsn.out, List.map_append]; rfl), x1⟩
      case measure => simp [intOf]; omega
    · obtain rfl : n = j := by omega
      rw [List.take_of_length_le (by omega)] at hown
      obtain ⟨Ar, cr, rfl, _⟩ := own_form hown
      have HNO := Lib.hid (ref05_Chunks_no Ar n cr (natsOf b) wr (Is.of_own hown) (by omega))
      have HOK := Lib.hid (ref05_Chunks_ok Ar n cr (natsOf b) wr (Is.of_own hown))
      have HN := Lib.hid (natsOf_len b)
      have HOW := Lib.hid hown
      have HB := Lib.hid (hb.ext hx)
      clear hown hb
      generalize natsOf b = NB at *
      rcases hrow : rowChB NB with _ | _
      · have hub : UB = [] := by rw [HUN.out, hrow]; rfl
        subst hub
        have HC := Lib.hid (HNO.out hrow)
        clear HUN hrow HNO HOK HCP
        go_wp2_with fail
        refine HC.out.mono ?_
        rintro e w2 ⟨rfl, x2⟩
        go_wp2_with fail
        exact (HE.out _ _).2 ⟨none, 0, 6, rfl, World.ownsRow_nil _ _ _ _, hx.trans x2⟩
      · have hub : UB = NB := by rw [HUN.out, hrow]; rfl
        have hnl : NB.length = n := by rw [HN.out]; exact hlen
        have HNL := Lib.hid hnl
        have HC := Lib.hid (HOK.out hrow)
        rw [HCP.out hrow] at HC
        subst hub
        clear HUN hrow hnl HNO HOK HCP
        go_wp2_with fail
        refine HC.out.mono ?_
        rintro e w2 ⟨v2, rfl, ho2, x2⟩
        obtain ⟨A2, c2, rfl, _⟩ := own_form ho2
        have hs1 := str_at (HB.out.ext x2) c
        have hs2 := str_at (Bs.of_own ho2) c2
        rw [hlen] at hs2
        clear ho2 HC
        go_wp2_with fail
        exact (HE.out _ _).2 ⟨Ar, cr, 0, by rw [HNL.out]; rfl, by rw [HNL.out]; exact own_ext HOW.out x2, hx.trans x2⟩
/-- what record leaves: the bytes' fields in rows of the call's own, or none -/
def RecPost (kind v : Int) (b : List UInt8) (w : World) (e : Ending) (w' : World) : Prop :=
  ∃ A n c ms, e = .returned (.tuple #[.slice A n c, .int .i64 (rcode kind v b)]) ∧ OwnR w' w.heap.size (.slice A n c) ms ∧ ms.length = n ∧ (rcode kind v b = 0 → ms.map FV.s = (ttrow b).1.map FV.s) ∧ Ext w w'
set_option maxRecDepth 100000 in
set_option maxHeartbeats 1600000 in
theorem ref10_record (kind v : Int) (A : Option Addr) (n c : Nat) (b : List UInt8) (w : World) (hb : Bs w A n b) (hn : n ≤ 100000) (hnc : n ≤ c) : Calls Tryz.prog 18 #[.slice A n c, .int .i64 kind, .int .i64 v] w (RecPost kind v b w) := by
  have HE : Hid (∀ (W : World) (e : Ending), RecPost kind v b w e W ↔ ∃ A n c ms, e = .returned (.tuple #[.slice A n c, .int .i64 (rcode kind v b)]) ∧ OwnR W w.heap.size (.slice A n c) ms ∧ ms.length = n ∧ (rcode kind v b = 0 → ms.map FV.s = (ttrow b).1.map FV.s) ∧ Ext w W) := Lib.hid fun _ _ => Iff.rfl
  have HRC : Hid (rcode kind v b = if (ttrow b).2 ≠ 0 then (ttrow b).2 else checkN (specL kind v) (ttrow b).1) := Lib.hid rfl
  have HSO := Lib.hid (fun h => ttrow_sound (l := b) h)
  have HT := Lib.hid (ref03_Take_ownI A n c b w hb hn hnc)
  generalize RecPost kind v b w = POST at *
  generalize rcode kind v b = code at *
  generalize ttrow b = tr at *
  obtain ⟨L, er⟩ := tr
  dsimp only at HT HRC HSO HE
  go_enter Tryz.func18, Tryz.ntmps18
  go_wp2_with fail
  refine HT.out.mono ?_
  rintro e w1 ⟨A1, c1, ms, rfl, hR, hs, x1⟩
  clear HT
  by_cases her : er = 0
  · subst her
    have hml : ms.length ≤ 16384 := by
      obtain ⟨k1, k2, k3⟩ := HSO.out rfl
      have h1 := rput_field_le L (fmay_ok k3).1
      rw [k2] at h1
      have h2 : ms.length = L.length := by have := congrArg List.length hs; simpa using this
      have := hb.len
      have := (fmay_ok k3).2
      have h4 := rput_len L
      rw [k2] at h4
      omega
    have hcode : code = checkN (specL kind v) ms := by rw [HRC.out, if_neg (by simp), s_check hs]
    have HC := Lib.hid (ref04_Check kind v A1 ms.length c1 ms w1 (hR.fs rfl) (by omega))
    rw [← hcode] at HC
    have HR := Lib.hid hR
    have HSS := Lib.hid hs
    clear hcode HRC HSO hs hR
    go_wp2_with fail
    refine HC.out.mono ?_
    rintro e w2 ⟨rfl, x2⟩
    clear HC
    go_wp2_with fail
    exact (HE.out _ _).2 ⟨A1, ms.length, c1, ms, rfl, HR.out.ext x2, rfl, fun _ => HSS.out, x1.trans x2⟩
  · have hcode : code = er := by rw [HRC.out, if_pos her]
    have z := bne_t (show ((er : Nat) : Int) ≠ 0 by omega)
    subst hcode
    clear HRC HSO hR hs
    go_wp2_with fail
    exact (HE.out _ _).2 ⟨none, 0, 0, [], rfl, ⟨World.ownsRow_nil _ _ _ _, by simp⟩, rfl, fun h => absurd h her, x1⟩
end Go.Proofs.YtiildgoaiookhaaGreat
