/- Words and walks that the last text of this claim stands on: ImF, ImG. No condition. -/
import Derived.Test.YtiildgoaiookhaaB17
import Derived.Laws.IdiomStrings
import Derived.Test.YtiildgoaiookhaaB03
/- The walks of image.fits and image.snap. -/
namespace Go.Proofs.Ytiildgoaiookhaa
open Go.RowKit

/-- a field that is there, whose bytes lie in no row of fields -/
structure LieF (w : World) (f : FV) : Prop where
  ok : f.Ok w
  at_ : f.len = 0 ∨ ∃ b off C t p, f.A = some ⟨b, off, none⟩ ∧ w.heap[b]? = some (.cells C t p) ∧ t ≠ 96
theorem LieF.ext {w w' : World} {f : FV} (h : LieF w f) (he : Ext w w') : LieF w' f :=
  ⟨h.ok.ext he, by
    rcases h.at_ with h0 | ⟨b, off, C, t, p, e1, e2, e3⟩
    · exact .inl h0
    · exact .inr ⟨b, off, C, t, p, e1, (he.block b (lt_of_block e2)).trans e2, e3⟩⟩
theorem LieF.none_ (w : World) (num wire : Int) (n : Nat) (hn : U64 n) : LieF w ⟨num, wire, n, none, 0, 0, []⟩ := ⟨⟨Bs.nil_ _ _, Nat.le_refl _, by simp [maxLen], hn⟩, .inl rfl⟩
theorem LieF.of_own {w : World} {B : Nat} {f : FV} (h : OwnF w B f) : LieF w f := by
  refine ⟨h.ok, ?_⟩
  rcases h.1.2 with ⟨hv, h0⟩ | ⟨g, cap, cur, hv, _, hg, _⟩
  · exact .inl h0
  · injection hv with hv
    exact .inr ⟨g, 0, cur, 5, (0, 0), hv, hg, by decide⟩
theorem LieF.grown {w w' : World} {f : FV} {B' n : Nat} {v : Value} {xs : List Value} (h : LieF w f) (hv : w.ownsRow B' 96 4 v n xs) (hg : w.grownBy w' v.ownBlock) : LieF w' f := by
  rcases h.at_ with h0 | ⟨b, off, C, t, p, e1, e2, e3⟩
  · have hb := h.ok.bs
    rw [h0] at hb
    have hl : f.b = [] := List.eq_nil_of_length_eq_zero hb.len
    exact ⟨⟨by rw [h0, hl]; exact Bs.nil_ _ _, h.ok.le, h.ok.cap, h.ok.u⟩, .inl h0⟩
  · have hne : some b ≠ v.ownBlock := by
      rcases hv.2 with ⟨rfl, _⟩ | ⟨g, cap, cur, rfl, _, hgg, _⟩
      · simp [Value.ownBlock]
      · intro e
        simp only [Value.ownBlock, Option.some.injEq] at e
        subst e
        rw [e2] at hgg
        injection hgg with hgg
        injection hgg with _ ht
        exact e3 ht
    have hblk := hg.block b (lt_of_block e2) hne
    refine ⟨⟨⟨h.ok.bs.1, fun hp => ?_⟩, h.ok.le, h.ok.cap, h.ok.u⟩, .inr ⟨b, off, C, t, p, e1, hblk.trans e2, e3⟩⟩
    obtain ⟨b1, off1, k1, k2, k3⟩ := h.ok.bs.2 hp
    rw [e1] at k1
    injection k1 with k1
    injection k1 with k1 k4
    subst k1 k4
    refine ⟨b, off, e1, Nat.lt_of_lt_of_le k2 hg.size, fun j u hu => ?_⟩
    rw [World.cell?_of_block hblk]
    exact k3 j u hu
/-- a row of fields of the call's own, each there -/
structure RowL (w : World) (B : Nat) (v : Value) (d : List FV) : Prop where
  row : w.ownsRow B 96 4 v d.length (rowOf d)
  lie : ∀ f ∈ d, LieF w f
theorem RowL.ext {w w' : World} {B : Nat} {v : Value} {d : List FV} (h : RowL w B v d) (he : Ext w w') : RowL w' B v d := ⟨own_ext h.row he, fun f hf => (h.lie f hf).ext he⟩
theorem RowL.app {w w' : World} {B : Nat} {v v' : Value} {d : List FV} {f : FV} (h : RowL w B v d) (hf : LieF w f) (hg : w.grownBy w' v.ownBlock) (hown : w'.ownsRow B 96 4 v' (d.length + 1) (rowOf d ++ f.cells)) : RowL w' B v' (d ++ [f]) := by
  refine ⟨own_to hown (Nat.le_refl _) (by simp) (by rw [rowOf_append, rowOf_one]), fun g hg' => ?_⟩
  rcases List.mem_append.1 hg' with hg' | hg'
  · exact (h.lie g hg').grown h.row hg
  · simp only [List.mem_singleton] at hg'
    subst hg'; exact hf.grown h.row hg
theorem RowL.to {w : World} {B B' : Nat} {v : Value} {d : List FV} (h : RowL w B v d) (hB : B' ≤ B) : RowL w B' v d := ⟨own_base h.row hB, h.lie⟩
theorem numF_rowL {w : World} {B : Nat} {v : Value} {l : List Int} (h : w.ownsRow B 96 4 v (numF 1 l).length (rowOf (numF 1 l))) (hl : ∀ x ∈ l, 0 ≤ x ∧ x ≤ 4611686018427387904) : RowL w B v (numF 1 l) :=
  ⟨h, fun f hf => by
    obtain ⟨i, hi, _, rfl⟩ := numF_mem l 1 f hf
    have := hl l[i] (List.getElem_mem _)
    exact LieF.none_ w _ _ _ (by unfold U64; omega)⟩
/-- the bytes of a string -/
theorem str_bytes (s : ByteArray) (hs : s.size ≤ maxLen) (w : World) : ∃ c W', (convert 9 52 (.string s)).run Try.prog w = .ok (.slice (some ⟨w.heap.size, 0, none⟩) s.size c) W' ∧ Ext w W' ∧
    (∀ num wire : Int, LieF W' ⟨num, wire, 0, some ⟨w.heap.size, 0, none⟩, s.size, c, s.data.toList⟩) ∧ s.size ≤ c ∧ c ≤ maxLen := by
  refine ⟨_, _, run_bytes_of_string w _ _ _ s Try.underlying9 Try.underlying52 Try.underlying5, ((Ext.refl w).drew).alloc _, fun num wire => ?_, grownCap_ge _ _ _ _, grownCap_le_maxLen _ _ _ _ hs⟩
  have hnew : (w.drew.alloc (.cells (bytesRow s (grownCap w s.size 0 5)) 5 ((bytesRow s (grownCap w s.size 0 5)).size, (bytesRow s (grownCap w s.size 0 5)).size + 1))).heap[w.heap.size]? = some (.cells (bytesRow s (grownCap w s.size 0 5)) 5 ((bytesRow s (grownCap w s.size 0 5)).size, (bytesRow s (grownCap w s.size 0 5)).size + 1)) := heap_alloc_new w.drew _
  refine ⟨⟨⟨by rw [List.length_map, Nat.mul_one]; exact (tag_len_ s).symm, fun _ => ⟨w.heap.size, 0, rfl, lt_of_block hnew, fun j u hu => ?_⟩⟩, grownCap_ge _ _ _ _, grownCap_le_maxLen _ _ _ _ hs, by simp [U64]⟩, .inr ⟨w.heap.size, 0, _, _, _, rfl, hnew, by decide⟩⟩
  have hj : j < s.data.size := by
    have := (List.getElem?_eq_some_iff.1 hu).1
    simpa using this
  rw [List.getElem?_map] at hu
  have e : s.data.toList[j]? = some s.data[j] := by simp
  rw [e] at hu
  simp only [Option.map_some, Option.some.injEq] at hu
  subst hu
  rw [Nat.zero_add, cell_of_row _ _ _ _ _ _ hnew]
  unfold bytesRow
  rw [Array.getElem?_append_left (by simpa using hj), Array.getElem?_map, Array.getElem?_eq_getElem hj]
  rfl

set_option maxRecDepth 100000 in
set_option maxHeartbeats 1600000 in
theorem image_fits (s : KV) (x : XV) (ver : Int) (b : Bool) (hb : badRest ver s x.more x.top = b) (w : World) (hs : s.Ok w) (hx : x.Ok w) (hf : x.Few) (hn3 : s.n3 ≤ 1000000) :
    Calls Try.prog 67 #[s.val, x.val, .int .i64 ver] w fun e w' => e = .returned (.bool (!b)) ∧ Ext w w' := by
  have hl3 := hs.t3.len
  have ht1 := hx.t1
  have ht2 := hx.t2
  have hl2 := hx.t2.len
  have f1 := hf.n1
  have f2 := hf.n2
  have fl := hf.ln
  unfold badRest XV.more at hb
  rw [List.length_map, hl2, hl3] at hb
  clear hs hx hf
  obtain ⟨ver_, next, keep, quota, B1, m1, d1, ses, B2, m2, d2, ops, B3, m3, d3, sns⟩ := s
  obtain ⟨A1, n1, c1, top, A2, n2, c2, more⟩ := x
  unfold KV.val XV.val
  dsimp only at *
  have hB0 := Blk.new w 26 [.int .i64 ver_, .int .i64 next, .int .i64 keep, .int .i64 quota, .slice B1 m1 d1, .slice B2 m2 d2, .slice B3 m3 d3]
  have hR0 := Blk.new (w.alloc (.cells #[.int .i64 ver_, .int .i64 next, .int .i64 keep, .int .i64 quota, .slice B1 m1 d1, .slice B2 m2 d2, .slice B3 m3 d3] 26)) 51 [.slice A1 n1 c1, .slice A2 n2 c2]
  replace hB0 := hB0.alloc (.cells #[.slice A1 n1 c1, .slice A2 n2 c2] 51)
  have xa : Ext w ((w.alloc (.cells #[.int .i64 ver_, .int .i64 next, .int .i64 keep, .int .i64 quota, .slice B1 m1 d1, .slice B2 m2 d2, .slice B3 m3 d3] 26)).alloc (.cells #[.slice A1 n1 c1, .slice A2 n2 c2] 51)) := ((Ext.refl w).alloc _).alloc _
  rw [show (w.alloc (.cells #[.int .i64 ver_, .int .i64 next, .int .i64 keep, .int .i64 quota, .slice B1 m1 d1, .slice B2 m2 d2, .slice B3 m3 d3] 26)).heap.size = w.heap.size + 1 by simp] at hR0
  go_enter Try.func67, Try.ntmps67
  go_upto_region 1 with fail
  generalize ((w.alloc (.cells #[.int .i64 ver_, .int .i64 next, .int .i64 keep, .int .i64 quota, .slice B1 m1 d1, .slice B2 m2 d2, .slice B3 m3 d3] 26)).alloc (.cells #[.slice A1 n1 c1, .slice A2 n2 c2] 51)) = W0 at *
  have HL := Lib.hid (fun b h => image_low 5 ver A1 n1 c1 top b h W0 (ht1.ext xa) (by omega))
  have r0 := hR0.cell 0
  simp only [List.getElem?_cons_zero] at r0
  rcases h1 : lowK (topS ver) top with _ | _
  · rw [h1, Bool.false_or] at hb
    have H1 := Lib.hid (HL.out _ h1)
    clear HL h1
    go_wp2_with fail
    refine H1.out.mono ?_
    rintro e w1 ⟨rfl, x1⟩
    replace xa := xa.trans x1
    replace hB0 := hB0.ext x1
    replace hR0 := hR0.ext x1
    clear x1 H1 r0
    have r1 := hR0.cell 1
    have s6 := hB0.cell 6
    simp only [List.getElem?_cons_zero, List.getElem?_cons_succ] at r1 s6
    by_cases h2 : m3 < n2
    · rw [dec_t h2, Bool.true_or] at hb
      subst hb
      have h2I : (m3 : Int) < n2 := by omega
      clear hB0 hR0
      go_wp2_with fail
      go_ret
      exact ⟨rfl, xa⟩
    · rw [dec_f h2, Bool.false_or] at hb
      have h2I : decide (m3 < n2) = false := dec_f h2
      have HB := Lib.hid hb
      have HBR := Lib.hid hR0
      have hB8 : ∀ f ∈ more, f.Ok w := ht2.ok
      have HOK := Lib.hid hB8
      have HLN := Lib.hid fl
      clear hb hB0 hR0 h2 hB8 fl
      go_wp2_with fail
      go_loopw [8, 25] (fun _ i wr => ∃ j : Nat, i = .int .i64 j ∧ j ≤ n2 ∧ Hid ((more.map WV.l |>.take j).any (lowK (topN ver)) = false) ∧ Ext w wr) (fun _ i _ => n2 - (intOf i).toNat)
      case atStart => exact ⟨0, rfl, by omega, Lib.hid rfl, xa⟩
      case round =>
        clear xa HBR r1 s6
        obtain ⟨j, rfl, hj, HJ, hxr⟩ := hrel
        by_cases hjn : j < n2
        · have hjl : j < more.length := by omega
          obtain ⟨bb, off, rfl, hc⟩ := Wss.cell (ht2.ext hxr) hjn hjl
          have hok := (HOK.out more[j] (List.getElem_mem _)).ext hxr
          have hln := HLN.out more[j] (List.getElem_mem _)
          have Hsn : Hid ((more.map WV.l).take (j + 1) = (more.map WV.l).take j ++ [more[j].l]) := Lib.hid (by rw [List.take_succ_eq_append_getElem (by simpa using hjl)]; simp)
          have Hin : Hid (more[j].l ∈ more.map WV.l) := Lib.hid (List.mem_map_of_mem (List.getElem_mem _))
          generalize more[j] = f at *
          have hj0 : (0 : Int) ≤ j := by omega
          have hj1 : (j : Int) < n2 := by omega
          have HL := Lib.hid (fun b h => image_low 2 ver f.A f.len f.cap f.l b h wr hok.fs (by omega))
          clear hok
          rcases h3 : lowK (topN ver) f.l with _ | _
          · have H3 := Lib.hid (HL.out _ h3)
            have H4 := Lib.hid h3
            clear HL h3
            go_wp2_with fail
            refine H3.out.mono ?_
            rintro e w2 ⟨rfl, x2⟩
            go_wp2_with fail
            go_roundw
            case rel => exact ⟨j + 1, val_int (by omega), by omega, Lib.hid (by rw [Hsn.out, List.any_append, HJ.out]; simp [H4.out]), hxr.trans x2⟩
            case measure => simp [intOf]; omega
          · have H3 := Lib.hid (HL.out _ h3)
            have hbt : b = true := by
              rw [← HB.out, List.any_eq_true]
              exact ⟨_, Hin.out, h3⟩
            subst hbt
            clear HL h3
            go_wp2_with fail
            refine H3.out.mono ?_
            rintro e w2 ⟨rfl, x2⟩
            go_wp2_with fail
            go_ret
            exact ⟨rfl, hxr.trans x2⟩
        · obtain rfl : n2 = j := by omega
          have hbf : b = false := by
            have e := HJ.out
            rw [List.take_of_length_le (by simp; omega), HB.out] at e
            exact e
          subst hbf
          go_wp2_with fail
          go_ret
          exact ⟨rfl, hxr⟩
  · rw [h1, Bool.true_or, Bool.true_or] at hb
    subst hb
    have H1 := Lib.hid (HL.out _ h1)
    clear HL h1
    go_wp2_with fail
    refine H1.out.mono ?_
    rintro e w1 ⟨rfl, x1⟩
    go_wp2_with fail
    go_ret
    exact ⟨rfl, xa.trans x1⟩
/-- what image.snap leaves -/
def SnapPost (ver : Int) (f : NV) (rest : List FV) (m : Nat) (w : World) (e : Ending) (w' : World) : Prop :=
  ∃ (A : Option Addr) (n c : Nat) (D : List FV), e = .returned (.slice A n c) ∧ Fs w' A n D ∧ D.map FV.s = (snpF ver f rest).map FV.s ∧ n ≤ m + 5 ∧ Ext w w'
/-- the fields of a snapshot's held, and of its tag -/
def heldF (ver : Int) (x : NV) : List FV := if 2 ≤ ver ∧ x.held = true then [tfv 4 0 1 []] else []
def tagF (ver : Int) (x : NV) : List FV := if 3 ≤ ver ∧ x.tag ≠ ⟨#[]⟩ then [tfv 5 2 0 x.tag.data.toList] else []
theorem snpF_parts (ver : Int) (x : NV) (rest : List FV) : snpF ver x rest = ((numF 1 [x.id, x.set] ++ [tfv 3 2 0 (chput x.ch)]) ++ heldF ver x) ++ tagF ver x ++ rest := by
  unfold snpF snpH heldF tagF; simp only [List.append_assoc, List.cons_append, List.nil_append]
theorem image_number_41 (w : World) : Calls Try.prog 73 #[.int .i64 4, .int .i64 1] w fun e w' => e = .returned (.agg #[.int .i64 4, .int .i64 0, .int .u64 1, .slice none 0 0]) ∧ Ext w w' :=
  image_number 4 1 1 rfl (by unfold U64; omega) w
set_option maxRecDepth 100000 in
set_option maxHeartbeats 3200000 in
theorem image_snap (f : NV) (ver : Int) (A : Option Addr) (m c : Nat) (rest : List FV) (w : World) (hf : f.Ok w) (hr : rowChB f.ch = true) (hid : ∀ n ∈ [f.id, f.set], 0 ≤ n ∧ n ≤ 4611686018427387904) (ht : f.tag.size ≤ 16) (hrest : Fs w A m rest) (hm : m ≤ 18000) :
    Calls Try.prog 72 #[.agg #[.int .i64 f.id, .int .i64 f.set, .slice f.A f.len f.cap, .bool f.held, .string f.tag], .slice A m c, .int .i64 ver] w (SnapPost ver f rest m w) := by
  have HE : Hid (∀ (W : World) (e : Ending), SnapPost ver f rest m w e W ↔ ∃ (A : Option Addr) (n c : Nat) (D : List FV), e = .returned (.slice A n c) ∧ Fs W A n D ∧ D.map FV.s = (snpF ver f rest).map FV.s ∧ n ≤ m + 5 ∧ Ext w W) := Lib.hid fun _ _ => Iff.rfl
  have HPART := Lib.hid (snpF_parts ver f rest)
  have HHELD : Hid (heldF ver f = if 2 ≤ ver ∧ f.held = true then [tfv 4 0 1 []] else []) := Lib.hid rfl
  have HTAG : Hid (tagF ver f = if 3 ≤ ver ∧ f.tag ≠ ⟨#[]⟩ then [tfv 5 2 0 f.tag.data.toList] else []) := Lib.hid rfl
  generalize heldF ver f = H4 at *
  generalize tagF ver f = H5 at *
  generalize SnapPost ver f rest m w = POST at *
  generalize snpF ver f rest = SN at *
  have hcs := hf.cs
  have HCH := Lib.hid (chput_80 hr)
  have HST := Lib.hid (str_bytes f.tag hf.ut)
  have hte : f.tag = ⟨#[]⟩ ∨ (f.tag.toList = [] ↔ False) := by
    by_cases h : f.tag = ⟨#[]⟩
    · exact .inl h
    · right
      refine ⟨fun e => h ?_, False.elim⟩
      rw [ByteArray.toList_eq] at e
      have h0 : f.tag.data = #[] := by have := congrArg List.toArray e; simpa using this
      rw [← h0]
  obtain ⟨id, set, fA, flen, fcap, ch, held, tag⟩ := f
  dsimp only at *
  have hB0 := Blk.new w 33 [.int .i64 id, .int .i64 set, .slice fA flen fcap, .bool held, .string tag]
  have x0 : Ext w (w.alloc (.cells #[.int .i64 id, .int .i64 set, .slice fA flen fcap, .bool held, .string tag] 33)) := (Ext.refl w).alloc _
  have HID := Lib.hid hid
  have HR := Lib.hid hr
  clear hf hid hr
  go_enter Try.func72, Try.ntmps72
  go_upto_region 1 with fail
  generalize hg : w.heap.size = g at hB0 ⊢
  generalize w.alloc (.cells #[.int .i64 id, .int .i64 set, .slice fA flen fcap, .bool held, .string tag] 33) = W0 at *
  clear hg
  have q0 := hB0.cell 0
  have q1 := hB0.cell 1
  simp only [List.getElem?_cons_zero, List.getElem?_cons_succ] at q0 q1
  go_wp2_with fail
  refine (image_numbers _ _ _ [id, set] _ (is_lit W0 [id, set] _ _ 2 _ rfl rfl (by simp)) (by omega) HID.out).mono ?_
  rintro e w1 ⟨v1, rfl, hown1, x1⟩
  have y1 := ((Ext.refl W0).alloc (.cells #[.int .i64 id, .int .i64 set] 3)).trans x1
  have HD1 := Lib.hid (numF_rowL (own_base (base' := W0.heap.size) hown1 (by simp)) HID.out)
  have HD2 : Hid ((numF 1 [id, set]).length ≤ 2) := Lib.hid (numF_len [id, set] 1)
  generalize numF 1 [id, set] = d1 at *
  have q2 := (hB0.ext y1).cell 2
  simp only [List.getElem?_cons_zero, List.getElem?_cons_succ] at q2
  clear q0 q1 hown1 x1
  have HCK := Lib.hid (cmd_Chunks_ok fA flen fcap ch w1 (hcs.ext (x0.trans y1)) HR.out)
  go_wp2_with fail
  refine HCK.out.mono ?_
  rintro e w2 ⟨v2, rfl, hown2, x2⟩
  obtain ⟨A2, c2, rfl, _⟩ := own_form hown2
  have y2 := y1.trans x2
  have HF2 : Hid (LieF w2 ⟨3, 2, 0, A2, (chput ch).length, c2, chput ch⟩) := Lib.hid (LieF.of_own (B := w1.heap.size) ⟨hown2, show (0 : Nat) < 18446744073709551616 by decide⟩)
  have HD3 := Lib.hid (HD1.out.ext x2)
  generalize chput ch = bs at *
  clear HCK hown2 x2 HD1 q2 y1 hcs
  go_wp2_with fail
  refine (image_text _ _ _ _ _).mono ?_
  rintro e w3 ⟨rfl, x3⟩
  have y3 := y2.trans x3
  have HD4 := Lib.hid (HD3.out.ext x3)
  have HF3 := Lib.hid (HF2.out.ext x3)
  have hrow4 := HD4.out.row
  have hd2 := HD2.out
  have hs3 := y3.size
  clear y2 x3 HD3 HF2
  go_upto_region 4 with (at_builtin; refine wpList_app fieldsT (by omega) _ rfl rfl rfl (hrow4.alloc _) rfl (rd_at4 _ (.int .i64 3) (.int .i64 2) (.int .u64 0) (.slice A2 bs.length c2) _ _ (by simp)) (fcells_one _ _ _ _ _ _) (by unfold maxLen; omega) (by omega) (by simp; omega) ?_; intro v4 w4 hown4 hg4 hat4)
  have y4 : Ext W0 w4 := Below.app (y3.alloc _) hg4 (by simp; omega) (hrow4.alloc _) (Nat.le_refl _)
  have HD5 := Lib.hid (RowL.app (HD4.out.ext ((Ext.refl w3).alloc _)) (HF3.out.ext ((Ext.refl w3).alloc (.cells #[.int .i64 3, .int .i64 2, .int .u64 0, .slice A2 bs.length c2] 96))) hg4 hown4)
  have HS5 : Hid ((d1 ++ [(⟨3, 2, 0, A2, bs.length, c2, bs⟩ : FV)]).map FV.s = (d1 ++ [tfv 3 2 0 bs]).map FV.s) := Lib.hid (by rw [List.map_append, List.map_append]; rfl)
  have HL5 : Hid ((d1 ++ [(⟨3, 2, 0, A2, bs.length, c2, bs⟩ : FV)]).length ≤ 3) := Lib.hid (by rw [List.length_append]; have := HD2.out; simp; omega)
  generalize (d1 ++ [(⟨3, 2, 0, A2, bs.length, c2, bs⟩ : FV)]) = D5 at *
  generalize d1 ++ [tfv 3 2 0 bs] = P5 at *
  have q3 := (hB0.ext y4).cell 3
  simp only [List.getElem?_cons_zero, List.getElem?_cons_succ] at q3
  clear hown4 hg4 hat4 hrow4 HD4 HF3 y3 hs3 HD2 hd2 HCH
  go_cut [32] (fun s wx => s = .bool (decide (2 ≤ ver) && held) ∧ w4 = wx)
  case first =>
    by_cases hv : 2 ≤ ver
    · have hv' := dec_t hv
      go_wp2_with fail
      go_meet
      exact ⟨by rw [hv']; rfl, rfl⟩
    · have hv' := dec_f hv
      go_wp2_with fail
      go_meet
      exact ⟨by rw [hv']; rfl, rfl⟩
  case rest =>
    obtain ⟨rfl, rfl⟩ := hcut
    have HB4 : Hid (H4 = if (decide (2 ≤ ver) && held) = true then [tfv 4 0 1 []] else []) := Lib.hid (by rw [HHELD.out]; simp only [Bool.and_eq_true, decide_eq_true_eq])
    generalize (decide (2 ≤ ver) && held) = b4 at *
    clear HHELD q3
    go_upto_if 32 with (fail)
    go_cut [7] (fun s7 wx => ∃ D : List FV, D.map FV.s = (P5 ++ H4).map FV.s ∧ D.length ≤ 4 ∧ RowL wx W0.heap.size s7 D ∧ Ext W0 wx)
    case first =>
      clear HE HPART HTAG HST hte HR HID
      rcases b4 with _ | _
      · go_wp2_with fail
        go_meet
        exact ⟨D5, by rw [HB4.out, List.map_append, HS5.out]; simp, by have := HL5.out; omega, HD5.out, y4⟩
      · go_wp2_with fail
        refine (image_number_41 _).mono ?_
        rintro e w5 ⟨rfl, x5⟩
        have y5 := y4.trans x5
        have HD6 := Lib.hid (HD5.out.ext x5)
        have hrow5 := HD6.out.row
        have hd5 := HL5.out
        have hs5 := y5.size
        clear y4 HD5
        go_wp2_with (at_builtin; refine wpList_app fieldsT (by omega) _ rfl rfl rfl (hrow5.alloc _) rfl (rd_at4 _ (.int .i64 4) (.int .i64 0) (.int .u64 1) (.slice none 0 0) _ _ (by simp)) (fcells_one 4 0 1 none 0 0) (by unfold maxLen; omega) (by omega) (by simp; omega) ?_; intro v6 w6 hown6 hg6 hat6)
        go_meet
        refine ⟨D5 ++ [⟨4, 0, 1, none, 0, 0, []⟩], ?_, by simp; omega, RowL.app (f := ⟨4, 0, 1, none, 0, 0, []⟩) (HD6.out.ext ((Ext.refl w5).alloc _)) ((LieF.none_ w5 4 0 1 (by unfold U64; omega)).ext ((Ext.refl w5).alloc (.cells #[.int .i64 4, .int .i64 0, .int .u64 1, .slice none 0 0] 96))) hg6 hown6, Below.app (y5.alloc _) hg6 (by simp; omega) (hrow5.alloc _) (Nat.le_refl _)⟩
        rw [HB4.out, List.map_append, HS5.out, if_pos trivial, List.map_append]; rfl
    case rest =>
      obtain ⟨D6, hs6, hl6, hD6, y6⟩ := hcut
      have HD6 := Lib.hid hD6
      have HS6 := Lib.hid hs6
      clear hD6 hs6 y4 HD5 HS5 HL5 HB4
      rename World => w6
      have q4 := (hB0.ext y6).cell 4
      simp only [List.getElem?_cons_zero, List.getElem?_cons_succ] at q4
      go_upto_region 6 with (fail)
      go_cut [43] (fun s wx => s = .bool (decide (3 ≤ ver) && !decide (tag = ⟨#[]⟩)) ∧ w6 = wx)
      case first =>
        clear HE HPART HTAG HST HR HID HD6 HS6
        by_cases hv : 3 ≤ ver
        · have hv' := dec_t hv
          rcases hte with rfl | hte
          · go_wp2_with fail
            go_meet
            exact ⟨by simp [hv'], rfl⟩
          · have hne : tag ≠ ⟨#[]⟩ := fun e => hte.1 (by rw [e, ByteArray.toList_eq])
            have Hne := Lib.hid hne
            have h1 : ¬ tag.toList = [] := fun e => hte.1 e
            have h2 : tag.toList.isEmpty = false := by simpa using h1
            clear hte hne
            go_wp2_with fail
            go_meet
            exact ⟨by simp [hv', Hne.out], rfl⟩
        · have hv' := dec_f hv
          clear hte
          go_wp2_with fail
          go_meet
          exact ⟨by simp [hv'], rfl⟩
      case rest =>
        obtain ⟨rfl, rfl⟩ := hcut
        have HB5 : Hid (H5 = if (decide (3 ≤ ver) && !decide (tag = ⟨#[]⟩)) = true then [tfv 5 2 0 tag.data.toList] else []) := Lib.hid (by rw [HTAG.out]; simp only [Bool.and_eq_true, decide_eq_true_eq, Bool.not_eq_true', decide_eq_false_iff_not])
        generalize (decide (3 ≤ ver) && !decide (tag = ⟨#[]⟩)) = b5 at *
        clear HTAG hte
        go_upto_if 43 with (fail)
        go_cut [7] (fun s7 wx => ∃ D : List FV, D.map FV.s = (P5 ++ H4 ++ H5).map FV.s ∧ D.length ≤ 5 ∧ RowL wx W0.heap.size s7 D ∧ Ext W0 wx)
        case first =>
          clear HE HPART HR HID
          rcases b5 with _ | _
          · clear HST
            go_wp2_with fail
            go_meet
            exact ⟨D6, by rw [HB5.out, List.map_append, HS6.out]; simp, by omega, HD6.out, y6⟩
          · obtain ⟨ct, WT, HT1, HT2, HT3, HT4, HT5⟩ := HST.out w6
            have HTL := Lib.hid (HT3 5 2)
            have y6t := y6.trans HT2
            have HD6t := Lib.hid (HD6.out.ext HT2)
            have HTX := Lib.hid HT2
            have HTS : Hid (tag.size = tag.data.toList.length) := Lib.hid (tag_len_ tag)
            clear HT3 HST HT2 HD6
            go_wp2_with fail
            refine (image_text _ _ _ _ _).mono ?_
            rintro e w7 ⟨rfl, x7⟩
            have y7 := y6t.trans x7
            have HD7 := Lib.hid (HD6t.out.ext x7)
            have HTL7 := Lib.hid (HTL.out.ext x7)
            have hrow7 := HD7.out.row
            have hs7 := y7.size
            clear y6 y6t HT1
            go_wp2_with (at_builtin; refine wpList_app fieldsT (by omega) _ rfl rfl rfl (hrow7.alloc _) rfl (rd_at4 _ (.int .i64 5) (.int .i64 2) (.int .u64 0) (.slice (some ⟨w6.heap.size, 0, none⟩) tag.size ct) _ _ (by simp)) (fcells_one 5 2 0 _ _ _) (by unfold maxLen; omega) (by omega) (by simp; omega) ?_; intro v8 w8 hown8 hg8 hat8)
            go_meet
            refine ⟨D6 ++ [⟨5, 2, 0, some ⟨w6.heap.size, 0, none⟩, tag.size, ct, tag.data.toList⟩], ?_, by simp; omega, RowL.app (f := ⟨5, 2, 0, some ⟨w6.heap.size, 0, none⟩, tag.size, ct, tag.data.toList⟩) (HD7.out.ext ((Ext.refl w7).alloc _)) (HTL7.out.ext ((Ext.refl w7).alloc (.cells #[.int .i64 5, .int .i64 2, .int .u64 0, .slice (some ⟨w6.heap.size, 0, none⟩) tag.size ct] 96))) hg8 hown8, Below.app (y7.alloc _) hg8 (by simp; omega) (hrow7.alloc _) (Nat.le_refl _)⟩
            rw [HB5.out, List.map_append, HS6.out, if_pos trivial, List.map_append (l₂ := [tfv 5 2 0 tag.data.toList])]
            simp only [List.map_cons, List.map_nil, FV.s, tfv, HTS.out]
            rfl
        case rest =>
          obtain ⟨D7, hs7, hl7, hD7, y7⟩ := hcut
          have HD7 := Lib.hid hD7
          have HS7 := Lib.hid hs7
          have hrow7 := hD7.row
          have hrs := hrest.ext (x0.trans y7)
          have hrl := hrs.len
          have HX0 := Lib.hid x0
          clear hD7 hs7 y6 HD6 HS6 HB5 x0 q4
          rename World => w7
          have hsz7 := y7.size
          go_upto_region 8 with (fail)
          go_wp2_with (at_builtin; refine wpList_app fieldsT (by omega) _ rfl rfl rfl hrow7 rfl hrs.rd (rowOf_cells _) (by unfold maxLen; omega) (by omega) hsz7 ?_; intro v9 w9 hown9 hg9 hat9; obtain ⟨A9, c9, rfl, _⟩ := own_form hown9)
          have y9 : Ext W0 w9 := Below.app y7 hg9 hsz7 hrow7 (Nat.le_refl _)
          refine (HE.out _ _).2 ⟨A9, D7.length + m, c9, D7 ++ rest, rfl, Fs.of_own (own_to hown9 (Nat.le_refl _) rfl (by rw [rowOf_append])) ?_, ?_, by omega, HX0.out.trans y9⟩
          · intro f hf
            rcases List.mem_append.1 hf with hf | hf
            · exact ((HD7.out.lie f hf).grown hrow7 hg9).ok
            · exact (hrest.ok f hf).ext (HX0.out.trans y9)
          · rw [HPART.out, List.map_append, HS7.out, ← List.map_append]
end Go.Proofs.Ytiildgoaiookhaa

/- The walk of the closure of image.Put that adds a record. -/
namespace Go.Proofs.Ytiildgoaiookhaa
open Go.RowKit

theorem OwnF.far {w : World} {B g i : Nat} {t : TypeId} {f : FV} {l : List Value} (h : OwnF w B f) (hb : Blk w g t l) (ht : 5 ≠ t) (u : Value) : OwnF (w.setCell ⟨g, i, none⟩ u) B f := ⟨own_far' h.1 (own_blk_ne h.1 hb ht) u, h.2⟩
theorem OwnR.far {w : World} {B g i : Nat} {t : TypeId} {v : Value} {d : List FV} {l : List Value} (h : OwnR w B v d) (hb : Blk w g t l) (ht : 5 ≠ t) (ht2 : 96 ≠ t) (u : Value) : OwnR (w.setCell ⟨g, i, none⟩ u) B v d :=
  ⟨own_far' h.row (own_blk_ne h.row hb ht2) u, fun f hf => (h.own f hf).far hb ht u⟩
/-- what the closure writes -/
def addW (gl gf : Nat) (v : Value) : Nat → Bool := fun k => (k == gl || k == gf) || v.ownBlock == some k
theorem addW_gl (gl gf : Nat) (v : Value) : addW gl gf v gl = true := by simp [addW]
theorem addW_gf (gl gf : Nat) (v : Value) : addW gl gf v gf = true := by simp [addW]
theorem addW_row {gl gf : Nat} {v : Value} {k : Nat} (h : v.ownBlock = some k) : addW gl gf v k = true := by simp [addW, h]
theorem addW_not {gl gf k : Nat} {v : Value} (h1 : k ≠ gl) (h2 : k ≠ gf) (h3 : v.ownBlock ≠ some k) : addW gl gf v k = false := by simp [addW, h1, h2, h3]
/-- the bytes of a row that may be -/
def putB (D : List FV) : List UInt8 := if fmay D = 0 then rput D else []
theorem RowApp {w w' : World} {B : Nat} {v v' : Value} {d : List FV} {num : Int} {A : Option Addr} {c : Nat} {bs : List UInt8} (h : OwnR w B v d) (hf : OwnF w B ⟨num, 2, 0, A, bs.length, c, bs⟩) (hg : w.grownBy w' v.ownBlock)
    (hown : w'.ownsRow B 96 4 v' (d.length + 1) (rowOf d ++ [.int .i64 num, .int .i64 2, .int .u64 0, .slice A bs.length c])) : OwnR w' B v' (d ++ [⟨num, 2, 0, A, bs.length, c, bs⟩]) := h.app hf hg hown
/-- what the closure leaves -/
def AddPost (num : Int) (D : List FV) (v : Value) (d : List FV) (code gl gf B : Nat) (w : World) (e : Ending) (w' : World) : Prop :=
  e = .returned (.tuple #[]) ∧ ∃ (v' : Value) (A : Option Addr) (c : Nat), Blk w' gl 48 [v'] ∧ Blk w' gf 29 [.int .i64 ((if code = 0 then fmay D else code : Nat) : Int)] ∧
    OwnR w' B v' (d ++ [⟨num, 2, 0, A, (putB D).length, c, putB D⟩]) ∧ Fr (addW gl gf v) w w'
set_option maxRecDepth 100000 in
set_option maxHeartbeats 3200000 in
theorem image_add (num : Int) (A : Option Addr) (n c : Nat) (D : List FV) (v : Value) (d : List FV) (code gl gf B : Nat) (w : World) (hL : Blk w gl 48 [v]) (hF : Blk w gf 29 [.int .i64 (code : Int)])
    (hR : OwnR w B v d) (hB : B ≤ w.heap.size) (hD : Fs w A n D) (hn : n ≤ 20000) (hd : d.length ≤ 18000) :
    Calls Try.prog 69 #[.int .i64 num, .slice A n c, .pointer (some ⟨gf, 0, none⟩), .pointer (some ⟨gl, 0, none⟩)] w (AddPost num D v d code gl gf B w) := by
  have HE : Hid (∀ (W : World) (e : Ending), AddPost num D v d code gl gf B w e W ↔ e = .returned (.tuple #[]) ∧ ∃ (v' : Value) (A : Option Addr) (c : Nat), Blk W gl 48 [v'] ∧ Blk W gf 29 [.int .i64 ((if code = 0 then fmay D else code : Nat) : Int)] ∧
    OwnR W B v' (d ++ [⟨num, 2, 0, A, (putB D).length, c, putB D⟩]) ∧ Fr (addW gl gf v) w W) := Lib.hid fun _ _ => Iff.rfl
  have hne : gl ≠ gf := hL.ne_ hF (by decide)
  obtain ⟨er, her⟩ : ∃ k, k = fmay D := ⟨_, rfl⟩
  obtain ⟨bs, hbs⟩ : ∃ b, b = putB D := ⟨_, rfl⟩
  have HP : Hid (Calls Try.prog 70 #[.slice A n c] w fun e w' => ∃ A' c', e = .returned (.tuple #[.slice A' bs.length c', .int .i64 (er : Int)]) ∧ w'.ownsRow w.heap.size 5 1 (.slice A' bs.length c') bs.length (bs.map bv) ∧ Ext w w') := Lib.hid (by
    by_cases hz : fmay D = 0
    · unfold putB at hbs
      rw [if_pos hz] at hbs
      rw [her, hbs, hz]
      refine (tlv_Put_ok A n c D w hD hn hz).mono ?_
      rintro e w' ⟨u, rfl, ho, x⟩
      obtain ⟨A', c', rfl, _⟩ := own_form ho
      exact ⟨A', c', rfl, ho, x⟩
    · unfold putB at hbs
      rw [if_neg hz] at hbs
      rw [her, hbs]
      refine (tlv_Put_no A n c D w hD hn hz).mono ?_
      rintro e w' ⟨rfl, x⟩
      exact ⟨none, 0, rfl, World.ownsRow_nil _ _ _ _, x⟩)
  rw [← her, ← hbs] at HE
  have hbl : bs.length ≤ 16384 := by
    rw [hbs]
    unfold putB
    split
    · rename_i hz
      rw [rput_len]; exact (fmay_ok hz).2
    · simp
  clear her hbs hD
  have HRR := Lib.hid hR
  have HLL := Lib.hid hL
  have HFF := Lib.hid hF
  clear hR hL
  go_enter Try.func69, Try.ntmps69
  go_wp2_with fail
  refine HP.out.mono ?_
  rintro e w1 ⟨A1, c1, rfl, hown1, x1⟩
  have hF1 := hF.ext x1
  have f0 := hF1.cell 0
  have z0 := hF1.frozen 0
  simp only [List.getElem?_cons_zero] at f0
  have HO1 := Lib.hid (own_base hown1 hB)
  have HR1 := Lib.hid (HRR.out.ext x1)
  have HL1 := Lib.hid (HLL.out.ext x1)
  have HFR : Hid (Fr (addW gl gf v) w w1) := Lib.hid (Fr.of_ext x1 _)
  have hs1 := x1.size
  clear HP hown1 x1 HRR HLL hF HFF
  obtain ⟨cf, hcf⟩ : ∃ k, k = (if code = 0 then er else code) := ⟨_, rfl⟩
  rw [← hcf] at HE
  by_cases hc : code = 0
  case' pos =>
    rw [if_pos hc] at hcf
    have hcf' := hcf.symm
    clear hcf
    subst hcf' hc
    have hcb : ((0 : Int) == 0) = true := rfl
    go_upto_region 3 with fail
    have hF2 : Blk (w1.setCell ⟨gf, 0, none⟩ (.int .i64 (er : Int))) gf 29 [.int .i64 (er : Int)] := hF1.set_ 0 _
    have hR2 := HR1.out.far (i := 0) hF1 (by decide) (by decide) (.int .i64 (er : Int))
    have hO2 := OwnF.far (i := 0) (f := ⟨num, 2, 0, A1, bs.length, c1, bs⟩) ⟨HO1.out, show (0 : Nat) < 18446744073709551616 by decide⟩ hF1 (by decide) (.int .i64 (er : Int))
    have hL2 := HL1.out.far (p := ⟨gf, 0, none⟩) hne (.int .i64 (er : Int))
    have hFR2 := HFR.out.trans (Fr.setCell w1 (p := ⟨gf, 0, none⟩) (addW_gf gl gf v) (.int .i64 (er : Int)))
    clear hF1 f0 z0 HO1 HR1 HL1 HFR hs1 hcb
    generalize w1.setCell ⟨gf, 0, none⟩ (.int .i64 (er : Int)) = W2 at *
  case' neg =>
    rw [if_neg hc] at hcf
    have hcf' := hcf.symm
    clear hcf
    subst hcf'
    have hcb : ((code : Int) == 0) = false := beq_f (by omega)
    go_upto_region 3 with fail
    have hF2 := hF1
    have hR2 := HR1.out
    have hO2 : OwnF w1 B ⟨num, 2, 0, A1, bs.length, c1, bs⟩ := ⟨HO1.out, show (0 : Nat) < 18446744073709551616 by decide⟩
    have hL2 := HL1.out
    have hFR2 := HFR.out
    clear hF1 f0 z0 HO1 HR1 HL1 HFR hs1 hcb hc
    generalize w1 = W2 at *
  all_goals
    have hs2 := Nat.le_trans hB hFR2.size
    have l0 := hL2.cell 0
    simp only [List.getElem?_cons_zero] at l0
    have HTX := Lib.hid (image_text num A1 bs.length c1 W2.drew)
    have HF2 := Lib.hid hF2
    have HR2 := Lib.hid hR2
    have HO2 := Lib.hid hO2
    have HL2 := Lib.hid hL2
    have HFR2 := Lib.hid hFR2
    clear hF2 hR2 hO2 hL2 hFR2
    go_region_law (first
      | (refine step_app fieldsT (by omega) _ rfl rfl (by simp [Act.eval]) (own_ext (HR2.out.ext x3).row ((Ext.refl w3).alloc _)) (by simp [Act.eval]; rfl) (rd_new4 _ _ _ _ _ _) (fcells_one _ _ _ _ _ _) (by unfold maxLen; omega) (by omega) (by simp; omega) ?_; intro v6 w6 hown6 hg6 hat6; obtain ⟨A6, c6, rfl, _⟩ := own_form hown6; have hb6 := ((HL2.out.ext x3).ext ((Ext.refl w3).alloc (.cells #[.int .i64 num, .int .i64 2, .int .u64 0, .slice A1 bs.length c1] 96))).grown hg6 (fun e => own_blk_ne (own_ext (HR2.out.ext x3).row ((Ext.refl w3).alloc (.cells #[.int .i64 num, .int .i64 2, .int .u64 0, .slice A1 bs.length c1] 96))) ((HL2.out.ext x3).ext ((Ext.refl w3).alloc (.cells #[.int .i64 num, .int .i64 2, .int .u64 0, .slice A1 bs.length c1] 96))) (by decide) e.symm); have e6 := hb6.cell 0; have z6 := hb6.frozen 0; simp only [List.getElem?_cons_zero] at e6)
      | (go_simp; go_at_call 71; refine HTX.out.mono ?_; rintro e w3 ⟨rfl, x3'⟩; have x3 := ((Ext.refl W2).drew).trans x3'; clear x3'; have hs3 : B ≤ w3.heap.size := Nat.le_trans hs2 x3.size; have d3 := x3.cell l0; have d3' := Ext.cell ((Ext.refl w3).alloc (.cells #[.int .i64 num, .int .i64 2, .int .u64 0, .slice A1 bs.length c1] 96)) d3))
    all_goals
      have xal : Ext W2 (w3.alloc (.cells #[.int .i64 num, .int .i64 2, .int .u64 0, .slice A1 bs.length c1] 96)) := x3.alloc _
      have hR6 := RowApp (HR2.out.ext xal) (HO2.out.ext xal) hg6 hown6
      have hF6 := ((HF2.out.ext xal).grown hg6 (fun e => own_blk_ne (HR2.out.ext xal).row (HF2.out.ext xal) (by decide) e.symm)).far (p := ⟨gl, 0, none⟩) (fun e => hne e.symm) (.slice A6 (d.length + 1) c6)
      have hL6 := hb6.set_ 0 (.slice A6 (d.length + 1) c6)
      have hR7 := hR6.far (i := 0) hb6 (by decide) (by decide) (.slice A6 (d.length + 1) c6)
      have hFr := (((HFR2.out.trans (Fr.of_ext xal _)).trans (Fr.grown hg6 (fun k e => addW_row e))).trans (Fr.setCell w6 (p := ⟨gl, 0, none⟩) (addW_gl gl gf v) (.slice A6 (d.length + 1) c6)))
      clear hown6 hg6 hat6 hb6 e6 z6 d3 d3' xal hR6
      have HX := Lib.hid ((HE.out _ _).2 ⟨rfl, _, _, _, hL6, hF6, hR7, hFr⟩)
      go_wp2_with fail
      go_end0
      exact HX.out
end Go.Proofs.Ytiildgoaiookhaa
