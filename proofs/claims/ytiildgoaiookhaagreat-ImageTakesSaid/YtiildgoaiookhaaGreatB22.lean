/- Words and walks that the last text of this claim stands on: ImZ, IrP. No condition. -/
import Derived.Test.YtiildgoaiookhaaGreatB21
import Derived.Test.YtiildgoaiookhaaGreatB18
import Derived.Test.YtiildgoaiookhaaGreatB19
import Derived.Test.YtiildgoaiookhaaGreatB20
import Derived.Test.YtiildgoaiookhaaGreatB14
import Derived.Test.YtiildgoaiookhaaGreatB12
/- The walk of the reader's snap. (Printed by wip/tools/imsnap.py.) -/
namespace Go.Proofs.YtiildgoaiookhaaGreat
open Go.RowKit

theorem rd_new5 (w : World) (a b c d e : Value) (t : TypeId) : Rd (w.alloc (.cells #[a, b, c, d, e] t)) (some ⟨w.heap.size, 0, none⟩) 1 5 [a, b, c, d, e] := Rd.block w #[a, b, c, d, e] t 1 rfl
theorem RT.gr {w0 w w6 : World} {g : Nat} {ver : Int} {s : KV} {x : XV} {B : Nat} {e : TypeId} {sz n : Nat} {v : Value} {xs : List Value} (h : RT w0 w g ver s x) (hv : w.ownsRow B e sz v n xs) (he : e ≠ 51) (hg : w.grownBy w6 v.ownBlock) :
    Blk w6 g 51 [.int .i64 ver, .int .i64 s.ver, .int .i64 s.next, .int .i64 s.keep, .int .i64 s.quota, .slice s.A1 s.n1 s.c1, .slice s.A2 s.n2 s.c2, .slice s.A3 s.n3 s.c3, .slice x.A1 x.n1 x.c1, .slice x.A2 x.n2 x.c2] :=
  h.blk.grown hg (fun e => own_blk_ne hv h.blk he e.symm)
theorem OwnN.farS {w : World} {B g i : Nat} {f : NV} {l : List Value} (h : OwnN w B f) (hb : Blk w g 70 l) (u : Value) : OwnN (w.setCell ⟨g, i, none⟩ u) B f := ⟨h.u0, h.u1, own_farB h.own hb (by decide) u, h.uc, h.ut⟩
theorem snpOf_snoc (l : List FV) (j : Nat) (h : j < l.length) : snpOf (l.take (j + 1)) = snpStep (snpOf (l.take j)) l[j] := fold_take _ _ l j h
/-- what snap leaves -/
def SnpPost (w0 : World) (g : Nat) (ver : Int) (s : KV) (x : XV) (l : List FV) (w : World) (e : Ending) (w' : World) : Prop :=
  e = .returned (.tuple #[]) ∧ ∃ A c f A' c' y, RS w0 w' g ver (addSns s A c f) (addMore x A' c' y) ∧ f.nq = snpOf (l.filter (loB (topN ver))) ∧ y.l.map FV.s = (l.filter fun f => !loB (topN ver) f).map FV.s ∧ y.len ≤ 17000 ∧ TFr w w'
set_option maxRecDepth 100000 in
set_option maxHeartbeats 6400000 in
theorem reader_snap (w0 : World) (g : Nat) (ver : Int) (s : KV) (x : XV) (A : Option Addr) (n c : Nat) (l : List FV) (w : World) (h : RS w0 w g ver s x) (hf : Fs w A n l) (hn : n ≤ 17000) (hfl : ∀ f ∈ l, f.len ≤ 16384) (hs3 : s.n3 ≤ 20000) (hx2 : x.n2 ≤ 20000) :
    Calls Tryz.prog 46 #[.pointer (some ⟨g, 0, none⟩), .slice A n c] w (SnpPost w0 g ver s x l w) := by
  have HE : Hid (∀ (W : World) (e : Ending), SnpPost w0 g ver s x l w e W ↔ e = .returned (.tuple #[]) ∧ ∃ A c f A' c' y, RS w0 W g ver (addSns s A c f) (addMore x A' c' y) ∧ f.nq = snpOf (l.filter (loB (topN ver))) ∧ y.l.map FV.s = (l.filter fun f => !loB (topN ver) f).map FV.s ∧ y.len ≤ 17000 ∧ TFr w W) := Lib.hid fun _ _ => Iff.rfl
  generalize SnpPost w0 g ver s x l w = POST at *
  have hlen := hf.len
  have HTP := Lib.hid (fun W => forms_Top 2 ver W)
  have HSP := Lib.hid (fun (W : World) (h : Ext w W) => tlv_Split_own (topN ver) A n c l W (hf.ext h) (by omega) (fun f hf => by have := hfl f hf; omega))
  have HFL : Hid (∀ P : List FV, P.map FV.s = (l.filter (loB (topN ver))).map FV.s → (∀ f ∈ P, f.len ≤ 16384) ∧ P.length ≤ 20000 ∧ snpOf P = snpOf (l.filter (loB (topN ver)))) := Lib.hid (fun P hP => by
    refine ⟨fun f hf => ?_, ?_, s_fold _ s_snp _ _ _ hP⟩
    · have h1 : f.s ∈ (l.filter (loB (topN ver))).map FV.s := by rw [← hP]; exact List.mem_map_of_mem hf
      obtain ⟨k, hk, e⟩ := List.mem_map.1 h1
      have := hfl k (List.mem_filter.1 hk).1
      rw [← (s_parts e).2.2.2.1]; exact this
    · have := congrArg List.length hP
      simp only [List.length_map] at this
      have h2 := List.length_filter_le (loB (topN ver)) l
      omega)
  have HQL : Hid (∀ Q : List FV, Q.map FV.s = (l.filter fun f => !loB (topN ver) f).map FV.s → Q.length ≤ 17000) := Lib.hid (fun Q hQ => by
    have := congrArg List.length hQ
    simp only [List.length_map] at this
    have h2 := List.length_filter_le (fun f => !loB (topN ver) f) l
    omega)
  rw [show topL (specL 2 ver) = topN ver from rfl] at HTP
  have HRS := Lib.hid h
  have o0 := h.blk.cell 0
  simp only [List.getElem?_cons_zero] at o0
  have hgw : g < w.heap.size := h.blk.lt
  clear h hf hfl
  have hX := Blk.new w 70 [.int .i64 0, .int .i64 0, .slice none 0 0, .bool false, .string ⟨#[]⟩]
  have xw : Ext w (w.alloc (.cells #[.int .i64 0, .int .i64 0, .slice none 0 0, .bool false, .string ⟨#[]⟩] 70)) := (Ext.refl w).alloc _
  replace o0 := Ext.cell xw o0
  go_enter Tryz.func46, Tryz.ntmps46
  go_upto_region 1 with fail
  generalize hgx : w.heap.size = gx at hX hgw ⊢
  generalize w.alloc (.cells #[.int .i64 0, .int .i64 0, .slice none 0 0, .bool false, .string ⟨#[]⟩] 70) = W0 at *
  have hgxw : w.heap.size ≤ gx := by omega
  clear hgx
  go_wp2_with fail
  refine (HTP.out _).mono ?_
  rintro e w1 ⟨rfl, x1⟩
  go_wp2_with fail
  refine (HSP.out _ (xw.trans x1)).mono ?_
  rintro e w2 ⟨vK, vQ, P, Q, rfl, hoK, hoQ, hfK, hfQ, hPs, hQs, x2⟩
  obtain ⟨AK, cK, rfl, _⟩ := own_form hoK
  obtain ⟨AQ, cQ, rfl, _⟩ := own_form hoQ
  have hX2 := (hX.ext x1).ext x2
  have xw2 := (xw.trans x1).trans x2
  have hbase : w0.heap.size ≤ w1.heap.size := Nat.le_trans HRS.out.ext.size (xw.trans x1).size
  have HPR : Hid (OwnR w2 w0.heap.size (.slice AK P.length cK) P) := Lib.hid (OwnR.to ⟨hoK, hfK⟩ hbase)
  have HQR : Hid (OwnR w2 w0.heap.size (.slice AQ Q.length cQ) Q) := Lib.hid (OwnR.to ⟨hoQ, hfQ⟩ hbase)
  obtain ⟨hPl, hPn, hPo⟩ := HFL.out P hPs
  have hQn := HQL.out Q hQs
  have HQS := Lib.hid hQs
  have HPL := Lib.hid hPl
  have HPO := Lib.hid hPo
  have HSN := Lib.hid (snpOf_snoc P)
  have HX2 := Lib.hid hX2
  have HXW := Lib.hid xw2
  clear hX xw x1 x2 hoK hoQ hfK hfQ hPs hQs hPl hPo hX2 xw2 HSP HTP HFL HQL o0 hlen
  go_wp2_with fail
  go_loopw [21] (fun i wr => ∃ j : Nat, i = .int .i64 j ∧ j ≤ P.length ∧ (∃ X : NV, Blk wr gx 70 [.int .i64 X.id, .int .i64 X.set, .slice X.A X.len X.cap, .bool X.held, .string X.tag] ∧ Hid (X.nq = snpOf (P.take j)) ∧ OwnN wr w0.heap.size X) ∧ Ext w wr ∧ TFr w2 wr) (fun i _ => P.length - (intOf i).toNat)
  case atStart => exact ⟨0, rfl, by omega, ⟨⟨0, 0, none, 0, 0, [], false, ⟨#[]⟩⟩, HX2.out, Lib.hid rfl, ⟨by decide, by decide⟩, ⟨by decide, by decide⟩, World.ownsRow_nil _ _ _ _, by simp, Nat.zero_le _⟩, HXW.out, TFr.refl _⟩
  case round =>
    clear HX2 HXW
    obtain ⟨j, rfl, hj, ⟨X, hX, HXO, hXN⟩, hx, hT⟩ := hrel
    have hPfs := (HPR.out.tfr hT).fs rfl
    by_cases hjn : j < P.length
    · obtain ⟨bb, off, rfl, e0, e1, e2, e3⟩ := hPfs.at_ hjn
      have hfo := hPfs.ok P[j] (List.getElem_mem _)
      have hfl := HPL.out P[j] (List.getElem_mem _)
      have Hsn := Lib.hid (HSN.out j hjn)
      generalize P[j] = f at *
      have hj0 : (0 : Int) ≤ j := by omega
      have hj1 : (j : Int) < P.length := by omega
      have hbs := hfo.bs
      have hle := hfo.le
      obtain ⟨num, wire, nn, fA, fl, fc, fb⟩ := f
      dsimp only at e0 e1 e2 e3 hbs hle hfl
      have hbl := hbs.len
      have xb : Ext wr (wr.alloc (.cells #[.int .i64 num, .int .i64 wire, .int .u64 nn, .slice fA fl fc] 54)) := (Ext.refl wr).alloc _
      have hX2 := hX.ext xb
      have hb2 := hbs.ext xb
      have hw2 : I64 (IntKind.i64.wrap (nn : Int)) := i64_wrap _
      obtain ⟨m, hm⟩ : ∃ m, m = IntKind.i64.wrap (nn : Int) := ⟨_, rfl⟩
      rw [← hm] at hw2
      have Hm := Lib.hid hm
      have hm' : wrap64 (nn : Int) = m := (wrap64_eq _).trans hm.symm
      have HWI := Lib.hid hw2
      have HXN := Lib.hid (hXN.ext xb)
      have HXX := Lib.hid (hx.trans xb)
      have HTT := Lib.hid (hT.trans (TFr.of_ext xb))
      have hbx : w.heap.size ≤ gx := hgxw
      clear hm hw2 hXN hX xb hfo hbs hPfs
      by_cases h1 : num = 1
      · subst h1
        have x0 := hX2.cell 0
        have x1 := hX2.cell 1
        have x2 := hX2.cell 2
        have x3 := hX2.cell 3
        have x4 := hX2.cell 4
        simp only [List.getElem?_cons_zero, List.getElem?_cons_succ] at x0 x1 x2 x3 x4
        have z0 := hX2.frozen 0
        have z1 := hX2.frozen 1
        have z2 := hX2.frozen 2
        have z3 := hX2.frozen 3
        have z4 := hX2.frozen 4
        have HB := Lib.hid hX2
        clear hX2
        clear hb2
        go_wp2_with fail
        clear hm'
        go_roundw
        case rel => exact ⟨j + 1, val_int (by omega), by omega, ⟨⟨m, X.set, X.A, X.len, X.cap, X.ch, X.held, X.tag⟩, HB.out.set_ 0 _, Lib.hid (by rw [Hsn.out, ← HXO.out]; simp [snpStep, NV.nq, ← Hm.out]), ⟨HWI.out, HXN.out.u1, (HXN.out.farS HB.out _).own, HXN.out.uc, HXN.out.ut⟩⟩, HXX.out.setCell (p := ⟨gx, 0, none⟩) hbx _, HTT.out.trans (TFr.setCell HB.out (by decide) _)⟩
        case measure => simp [intOf]; omega
      have H1 := Lib.hid h1
      have g1 := beq_f h1
      clear h1
      by_cases h2 : num = 2
      · subst h2
        have x0 := hX2.cell 0
        have x1 := hX2.cell 1
        have x2 := hX2.cell 2
        have x3 := hX2.cell 3
        have x4 := hX2.cell 4
        simp only [List.getElem?_cons_zero, List.getElem?_cons_succ] at x0 x1 x2 x3 x4
        have z0 := hX2.frozen 0
        have z1 := hX2.frozen 1
        have z2 := hX2.frozen 2
        have z3 := hX2.frozen 3
        have z4 := hX2.frozen 4
        have HB := Lib.hid hX2
        clear hX2
        clear hb2
        go_wp2_with fail
        clear hm'
        go_roundw
        case rel => exact ⟨j + 1, val_int (by omega), by omega, ⟨⟨X.id, m, X.A, X.len, X.cap, X.ch, X.held, X.tag⟩, HB.out.set_ 1 _, Lib.hid (by rw [Hsn.out, ← HXO.out]; simp [snpStep, NV.nq, ← Hm.out]), ⟨HXN.out.u0, HWI.out, (HXN.out.farS HB.out _).own, HXN.out.uc, HXN.out.ut⟩⟩, HXX.out.setCell (p := ⟨gx, 1, none⟩) hbx _, HTT.out.trans (TFr.setCell HB.out (by decide) _)⟩
        case measure => simp [intOf]; omega
      have H2 := Lib.hid h2
      have g2 := beq_f h2
      clear h2
      by_cases h3 : num = 3
      · subst h3
        have HB := Lib.hid hX2
        have HUN := Lib.hid (cmd_Unchunk fA fl fc fb (wr.alloc (.cells #[.int .i64 3, .int .i64 wire, .int .u64 nn, .slice fA fl fc] 54)) hb2 (by omega) hle)
        have HUB : Hid (∀ y ∈ unch fb, I64 y) := Lib.hid (unch_i64 fb)
        unfold UnchPost at HUN
        clear hX2 hb2 hm'
        go_wp2_with fail
        refine HUN.out.mono ?_
        rintro e w4 ⟨A4, c4, code, rfl, ho4, y4⟩
        have hB4 := HB.out.ext y4
        have x0 := hB4.cell 0
        have x1 := hB4.cell 1
        have x2 := hB4.cell 2
        have x3 := hB4.cell 3
        have x4 := hB4.cell 4
        simp only [List.getElem?_cons_zero, List.getElem?_cons_succ] at x0 x1 x2 x3 x4
        have z0 := hB4.frozen 0
        have z1 := hB4.frozen 1
        have z2 := hB4.frozen 2
        have z3 := hB4.frozen 3
        have z4 := hB4.frozen 4
        have HB4 := Lib.hid hB4
        have HO4 : Hid (w4.ownsRow w0.heap.size 3 1 (.slice A4 (unch fb).length c4) (unch fb).length ((unch fb).map (Value.int .i64))) := Lib.hid (own_base ho4 (Nat.le_trans HRS.out.ext.size HXX.out.size))
        have HX4 := Lib.hid (HXX.out.trans y4)
        have HT4 := Lib.hid (HTT.out.trans (TFr.of_ext y4))
        have HN4 := Lib.hid (HXN.out.ext y4)
        clear hB4 ho4 y4 HUN
        go_wp2_with fail
        go_roundw
        case rel => exact ⟨j + 1, val_int (by omega), by omega, ⟨⟨X.id, X.set, A4, (unch fb).length, c4, unch fb, X.held, X.tag⟩, HB4.out.set_ 2 _, Lib.hid (by rw [Hsn.out, ← HXO.out]; simp [snpStep, NV.nq]), ⟨HN4.out.u0, HN4.out.u1, own_farB HO4.out HB4.out (by decide) _, HUB.out, HN4.out.ut⟩⟩, HX4.out.setCell (p := ⟨gx, 2, none⟩) hbx _, HT4.out.trans (TFr.setCell HB4.out (by decide) _)⟩
        case measure => simp [intOf]; omega
      have H3 := Lib.hid h3
      have g3 := beq_f h3
      clear h3
      by_cases h4 : num = 4
      · subst h4
        have x0 := hX2.cell 0
        have x1 := hX2.cell 1
        have x2 := hX2.cell 2
        have x3 := hX2.cell 3
        have x4 := hX2.cell 4
        simp only [List.getElem?_cons_zero, List.getElem?_cons_succ] at x0 x1 x2 x3 x4
        have z0 := hX2.frozen 0
        have z1 := hX2.frozen 1
        have z2 := hX2.frozen 2
        have z3 := hX2.frozen 3
        have z4 := hX2.frozen 4
        have HB := Lib.hid hX2
        clear hX2 hb2 hm'
        by_cases hnn : nn = 0
        · have hq := bne_f (show ((nn : Nat) : Int) = 0 by omega)
          have HNN := Lib.hid hnn
          clear hnn
          go_wp2_with fail
          go_roundw
          case rel => exact ⟨j + 1, val_int (by omega), by omega, ⟨⟨X.id, X.set, X.A, X.len, X.cap, X.ch, false, X.tag⟩, HB.out.set_ 3 _, Lib.hid (by rw [Hsn.out, ← HXO.out]; simp [snpStep, NV.nq, HNN.out]), HXN.out.u0, HXN.out.u1, (HXN.out.farS HB.out _).own, HXN.out.uc, HXN.out.ut⟩, HXX.out.setCell (p := ⟨gx, 3, none⟩) hbx _, HTT.out.trans (TFr.setCell HB.out (by decide) _)⟩
          case measure => simp [intOf]; omega
        · have hq := bne_t (show ((nn : Nat) : Int) ≠ 0 by omega)
          have HNN := Lib.hid hnn
          clear hnn
          go_wp2_with fail
          go_roundw
          case rel => exact ⟨j + 1, val_int (by omega), by omega, ⟨⟨X.id, X.set, X.A, X.len, X.cap, X.ch, true, X.tag⟩, HB.out.set_ 3 _, Lib.hid (by rw [Hsn.out, ← HXO.out]; simp [snpStep, NV.nq, HNN.out]), HXN.out.u0, HXN.out.u1, (HXN.out.farS HB.out _).own, HXN.out.uc, HXN.out.ut⟩, HXX.out.setCell (p := ⟨gx, 3, none⟩) hbx _, HTT.out.trans (TFr.setCell HB.out (by decide) _)⟩
          case measure => simp [intOf]; omega
      have H4 := Lib.hid h4
      have g4 := beq_f h4
      clear h4
      by_cases h5 : num = 5
      · subst h5
        have x0 := hX2.cell 0
        have x1 := hX2.cell 1
        have x2 := hX2.cell 2
        have x3 := hX2.cell 3
        have x4 := hX2.cell 4
        simp only [List.getElem?_cons_zero, List.getElem?_cons_succ] at x0 x1 x2 x3 x4
        have z0 := hX2.frozen 0
        have z1 := hX2.frozen 1
        have z2 := hX2.frozen 2
        have z3 := hX2.frozen 3
        have z4 := hX2.frozen 4
        have HB := Lib.hid hX2
        clear hX2
        have hst := str_at hb2 fc
        clear hb2 hm'
        go_wp2_with fail
        go_roundw
        case rel => exact ⟨j + 1, val_int (by omega), by omega, ⟨⟨X.id, X.set, X.A, X.len, X.cap, X.ch, X.held, bstr fb⟩, HB.out.set_ 4 _, Lib.hid (by rw [Hsn.out, ← HXO.out]; simp [snpStep, NV.nq, bstr]), ⟨HXN.out.u0, HXN.out.u1, (HXN.out.farS HB.out _).own, HXN.out.uc, by show (bstr fb).size ≤ maxLen; have : (bstr fb).size = fb.length := rfl; unfold maxLen; omega⟩⟩, HXX.out.setCell (p := ⟨gx, 4, none⟩) hbx _, HTT.out.trans (TFr.setCell HB.out (by decide) _)⟩
        case measure => simp [intOf]; omega
      have H5 := Lib.hid h5
      have g5 := beq_f h5
      clear h5
      have HB := Lib.hid hX2
      clear hX2 hb2
      go_wp2_with fail
      clear hm'
      go_roundw
      case rel => exact ⟨j + 1, val_int (by omega), by omega, ⟨X, HB.out, Lib.hid (by rw [Hsn.out, ← HXO.out]; simp [snpStep, H1.out, H2.out, H3.out, H4.out, H5.out]), HXN.out⟩, HXX.out, HTT.out⟩
      case measure => simp [intOf]; omega
    · obtain rfl : j = P.length := by omega
      have HXL : Hid (X.nq = snpOf (l.filter (loB (topN ver)))) := Lib.hid (by rw [HXO.out, List.take_length]; exact HPO.out)
      have HSW := Lib.hid (HRS.out.to hx)
      have HXB := Lib.hid hX
      have HTX := Lib.hid hT
      have HT0 := Lib.hid (TFr.of_ext hx)
      have HQW := Lib.hid (HQR.out.tfr hT)
      have HNW := Lib.hid hXN
      have o7 := HSW.out.blk.cell 7
      have x0 := hX.cell 0
      have x1 := hX.cell 1
      have x2 := hX.cell 2
      have x3 := hX.cell 3
      have x4 := hX.cell 4
      simp only [List.getElem?_cons_zero, List.getElem?_cons_succ] at x0 x1 x2 x3 x4
      simp only [List.getElem?_cons_zero, List.getElem?_cons_succ] at o7
      have hszr := HSW.out.ext.size
      have o7' := Ext.cell (((Ext.refl wr).alloc (.cells #[.int .i64 X.id, .int .i64 X.set, .slice X.A X.len X.cap, .bool X.held, .string X.tag] 70)).drew) o7
      have o7'' := Ext.cell ((Ext.refl wr).alloc (.cells #[.int .i64 X.id, .int .i64 X.set, .slice X.A X.len X.cap, .bool X.held, .string X.tag] 70)) o7
      clear HXO hX hx hT hXN HSN HRS HPR HQR hPfs HPL HPO
      go_upto_region 17 with fail
      go_region_law (refine step_app snapsT (by omega) _ rfl rfl (by simp [Act.eval]) (own_ext HSW.out.ok.o3 (by first | exact ((Ext.refl _).alloc _).drew | exact ((Ext.refl _).drew).alloc _)) (by simp [Act.eval]; first | rfl | exact ⟨rfl, rfl, rfl⟩) (by first | exact Rd.ext (rd_new5 _ _ _ _ _ _ _) (Ext.refl _).drew | exact rd_new5 _ _ _ _ _ _ _) (Thing.one (X : NV)) (by unfold maxLen; omega) (by omega) (by simp; omega) ?_; intro v6 w6 hown6 hg6 hat6; obtain ⟨A6, c6, rfl, _⟩ := own_form hown6; have xq6 := ext_at (w := wr) hg6 (by first | exact ((Ext.refl _).alloc _).drew | exact ((Ext.refl _).drew).alloc _); have hS6 := HSW.out.to xq6; have hb6 := hS6.gr hS6.ok.o3 (by decide) hg6; have e6 := hb6.cell 7; have z6 := hb6.frozen 7; simp only [List.getElem?_cons_zero, List.getElem?_cons_succ] at e6)
      all_goals
        have hadd := hS6.addSns (f := X) (HNW.out.ext xq6) hg6 hown6
        have HR7 := Lib.hid hadd.1
        have HT7 := Lib.hid (HT0.out.trans ((TFr.of_ext xq6).trans hadd.2))
        have HQ7 := Lib.hid (HQW.out.tfr ((TFr.of_ext xq6).trans hadd.2))
        clear hadd xq6 hS6 hb6 hg6 hown6 hat6 e6 z6 o7 o7' o7'' x0 x1 x2 x3 x4
        go_upto_region 18 with fail
        generalize w6.setCell ⟨g, 7, none⟩ (.slice A6 (s.n3 + 1) c6) = W7 at *
        have o9 := HR7.out.blk.cell 9
        simp only [List.getElem?_cons_zero, List.getElem?_cons_succ] at o9
        have hz7 := HR7.out.ext.size
        go_wp2_with (at_builtin; refine wpList_app listsT (by omega) _ rfl rfl rfl (own_ext HR7.out.oz.row ((Ext.refl W7).alloc _)) rfl (rd_new1 _ _ _) (one1 rfl) (by unfold maxLen; omega) (by omega) (by simp; omega) ?_; intro v8 w8 hown8 hg8 hat8; obtain ⟨A8, c8, rfl, _⟩ := own_form hown8; have xq8 := ext_at (w := W7) hg8 ((Ext.refl W7).alloc _); have hS8 := HR7.out.to xq8; have hb8 := hS8.gr hS8.oz.row (by decide) hg8; have e8 := hb8.cell 9; have z8 := hb8.frozen 9; simp only [List.getElem?_cons_zero, List.getElem?_cons_succ] at e8)
        have hadd := hS8.addMore (f := ⟨AQ, Q.length, cQ, Q⟩) (HQ7.out.ext xq8) rfl hg8 hown8
        have HR9 := Lib.hid hadd.1
        have HT9 := Lib.hid (HT7.out.trans ((TFr.of_ext xq8).trans hadd.2))
        clear hadd xq8 hS8 hb8 hg8 hown8 hat8 e8 z8 o9
        go_end0
        exact (HE.out _ _).2 ⟨rfl, A6, c6, X, A8, c8, ⟨AQ, Q.length, cQ, Q⟩, HR9.out, HXL.out, HQS.out, hQn, HT9.out⟩
end Go.Proofs.YtiildgoaiookhaaGreat

/- The walk of coracleref10.Put. -/
namespace Go.Proofs.YtiildgoaiookhaaGreat
open Go.RowKit

/-- the fields so far, in a row of the call's own -/
def AddR (v : Value) (W0 : World) (S : List FV) (w : World) : Prop := ∃ d : List FV, RowL w W0.heap.size v d ∧ d.map FV.s = S.map FV.s ∧ Ext W0 w
theorem AddR.ext {v : Value} {W0 : World} {S : List FV} {w w' : World} (h : AddR v W0 S w) (he : Ext w w') : AddR v W0 S w' := by
  obtain ⟨d, h1, h2, h3⟩ := h
  exact ⟨d, h1.ext he, h2, h3.trans he⟩
theorem AddR.x {v : Value} {W0 : World} {S : List FV} {w : World} (h : AddR v W0 S w) : Ext W0 w := by
  obtain ⟨_, _, _, h3⟩ := h
  exact h3
theorem AddR.cast {v : Value} {W0 : World} {S S' : List FV} {w : World} (h : AddR v W0 S w) (h2 : S = S') : AddR v W0 S' w := h2 ▸ h
theorem ref10_bytesR (v : Value) (W0 : World) (S : List FV) (num' : Int) (num : Nat) (hk : num' = num) (A : Option Addr) (n c : Nat) (bs : List UInt8) (w : World) (h : AddR v W0 S w) (hS : S.length ≤ 20000) (hf : LieF w ⟨num, 2, 0, A, n, c, bs⟩) :
    Calls Tryz.prog 56 #[v, .int .i64 num', .slice A n c] w fun e w' => ∃ v', e = .returned v' ∧ AddR v' W0 (S ++ optB num bs) w' := by
  obtain ⟨d, h1, h2, h3⟩ := h
  refine (ref10_bytes v d S num' num hk A n c bs w W0.heap.size h1 h2 h3.size (by have := s_len2 h2; omega) hf).mono ?_
  rintro e w' ⟨v', d', rfl, k1, k2, _, k4⟩
  exact ⟨v', rfl, d', k1, k2, Below.trans h3 k4⟩
theorem firstE_bad {l : List (List FV)} {j : Nat} (h : j < l.length) (h0 : firstE (l.take j) = 0) (h1 : fmay l[j] ≠ 0) : firstE l = fmay l[j] := by
  induction l generalizing j with
  | nil => simp at h
  | cons a r ih =>
    have e : ∀ m, firstE (a :: m) = if fmay a = 0 then firstE m else fmay a := fun _ => rfl
    cases j with
    | zero => rw [e]; simp only [List.getElem_cons_zero] at h1 ⊢; rw [if_neg h1]
    | succ k =>
      rw [List.take_succ_cons, e] at h0
      by_cases ha : fmay a = 0
      · rw [if_pos ha] at h0
        rw [e, if_pos ha]
        exact ih (by simpa using h) h0 (by simpa using h1)
      · rw [if_neg ha] at h0; exact absurd h0 ha
theorem any_bad {k : Nat} {m : List (List FV)} {j : Nat} (h : j < m.length) (h1 : lowK k m[j] = true) : m.any (lowK k) = true := List.any_eq_true.2 ⟨_, List.getElem_mem h, h1⟩

theorem snpsF_get (ver : Int) (sns : List NV) (more : List (List FV)) (j : Nat) (h : j < (snpsF ver sns more).length) (h' : j < sns.length) : (snpsF ver sns more)[j] = snpF ver sns[j] (ofM more j) := by simp [snpsF, ofM]
theorem ref03_Put_B (A : Option Addr) (n c : Nat) (l : List FV) (w : World) (hf : Fs w A n l) (hn : n ≤ 20000) :
    Calls Tryz.prog 55 #[.slice A n c] w fun e w' => ∃ A' c', e = .returned (.tuple #[.slice A' (putB l).length c', .int .i64 (fmay l)]) ∧ w'.ownsRow w.heap.size 5 1 (.slice A' (putB l).length c') (putB l).length ((putB l).map bv) ∧ Ext w w' := by
  by_cases hz : fmay l = 0
  · rw [putB_ok hz]
    refine (ref03_Put_ok A n c l w hf hn hz).mono ?_
    rintro e w' ⟨v, rfl, ho, x⟩
    obtain ⟨A', c', rfl, _⟩ := own_form ho
    exact ⟨A', c', by rw [hz]; rfl, ho, x⟩
  · have e : putB l = [] := by unfold putB; rw [if_neg hz]
    rw [e]
    refine (ref03_Put_no A n c l w hf hn hz).mono ?_
    rintro e w' ⟨rfl, x⟩
    exact ⟨none, 0, rfl, World.ownsRow_nil _ _ _ _, x⟩
theorem s_putB {l m : List FV} (h : l.map FV.s = m.map FV.s) : putB l = putB m := by unfold putB; rw [s_may h, s_rput h]
set_option maxRecDepth 100000 in
set_option maxHeartbeats 1600000 in
theorem ref10_Put_ver (s : KV) (x : XV) (ver : Int) (w : World) (hv : inI ver 1 3 = false) :
    Calls Tryz.prog 24 #[s.val, x.val, .int .i64 ver] w (PutPost ver s x w) := by
  have HE : Hid (∀ (W : World) (e : Ending), PutPost ver s x w e W ↔ ∃ v, e = .returned (.tuple #[v, .int .i64 ((kput ver s x.more x.top).2 : Nat)]) ∧ W.ownsRow w.heap.size 5 1 v (kput ver s x.more x.top).1.length ((kput ver s x.more x.top).1.map bv) ∧ Ext w W) := Lib.hid fun _ _ => Iff.rfl
  have hk : kput ver s x.more x.top = ([], 1) := by
    have h1 : kmay s ver = 1 := by unfold kmay; rw [if_pos hv]
    unfold kput; rw [if_pos (by rw [h1]; decide), h1]
  rw [hk] at HE
  clear hk
  unfold KV.val XV.val
  have hh : ver < 1 ∨ 3 < ver := by
    by_cases h1 : 1 ≤ ver
    · by_cases h3 : ver ≤ 3
      · rw [inI_t h1 h3] at hv; cases hv
      · omega
    · omega
  clear hv
  rcases hh with h | h
  · go_enter Tryz.func24, Tryz.ntmps24
    go_wp2_with fail
    go_ret2
    exact (HE.out _ _).2 ⟨_, rfl, World.ownsRow_nil _ _ _ _, ((Ext.refl w).alloc _).alloc _⟩
  · have h' : ¬ ver < 1 := by omega
    go_enter Tryz.func24, Tryz.ntmps24
    go_wp2_with fail
    go_ret2
    exact (HE.out _ _).2 ⟨_, rfl, World.ownsRow_nil _ _ _ _, ((Ext.refl w).alloc _).alloc _⟩

set_option maxRecDepth 100000 in
set_option maxHeartbeats 6400000 in
theorem ref10_Put_in (s : KV) (x : XV) (ver : Int) (w : World) (hs : s.Ok w) (hx : x.Ok w) (fs : s.Few) (fx : x.Few) (hv : inI ver 1 3 = true) :
    Calls Tryz.prog 24 #[s.val, x.val, .int .i64 ver] w (PutPost ver s x w) := by
  have HE : Hid (∀ (W : World) (e : Ending), PutPost ver s x w e W ↔ ∃ v, e = .returned (.tuple #[v, .int .i64 ((kput ver s x.more x.top).2 : Nat)]) ∧ W.ownsRow w.heap.size 5 1 v (kput ver s x.more x.top).1.length ((kput ver s x.more x.top).1.map bv) ∧ Ext w W) := Lib.hid fun _ _ => Iff.rfl
  obtain ⟨hv1, hv3⟩ := inI_iff.1 hv
  have HK : Hid (kput ver s x.more x.top = if kmay s ver ≠ 0 then ([], kmay s ver) else if ((lowK (topS ver) x.top || decide (s.sns.length < x.more.length)) || x.more.any (lowK (topN ver))) = true then ([], 6) else
    if firstE (snpsF ver s.sns x.more) ≠ 0 then ([], firstE (snpsF ver s.sns x.more)) else
    if fmay (stF ver s x.more x.top) = 0 then (rput (stF ver s x.more x.top), 0) else ([], fmay (stF ver s x.more x.top))) := Lib.hid rfl
  generalize kput ver s x.more x.top = KP at *
  generalize PutPost ver s x w = POST at *
  have HM := Lib.hid (fun (W : World) (h : Ext w W) => ref07_May s ver _ W (hs.ext h) fs.n1 fs.n2 fs.n3 fs.ch rfl)
  rw [kmayR_eq s ver _ hs.t3.len rfl] at HM
  have HKM := Lib.hid (fun h => kmay_parts (s := s) (v := ver) h)
  have HSO := Lib.hid hs
  have HXO := Lib.hid hx
  have HFX := Lib.hid fx
  have hf3 := fs.n3
  have HSTF : Hid (stF ver s x.more x.top = numF 1 [s.ver, s.next, s.keep] ++ (recF 4 (s.ses.map sesF) ++ (recF 5 (s.ops.map opnF) ++ (recF 6 (snpsF ver s.sns x.more) ++ ((if 3 ≤ ver ∧ s.quota ≠ 0 then [tfv 7 0 s.quota.toNat []] else []) ++ x.top))))) := Lib.hid rfl
  generalize stF ver s x.more x.top = ST at *
  generalize kmay s ver = km at *
  have hml : x.more.length = x.n2 := by unfold XV.more; rw [List.length_map]; exact hx.t2.len
  have hsl : s.sns.length = s.n3 := hs.t3.len
  have hn18 := fx.n1
  have hn28 := fx.n2
  clear hs hx fs fx hv
  unfold KV.val at HM ⊢
  unfold XV.val
  have hB0 := (Blk.new w 29 [.int .i64 s.ver, .int .i64 s.next, .int .i64 s.keep, .int .i64 s.quota, .slice s.A1 s.n1 s.c1, .slice s.A2 s.n2 s.c2, .slice s.A3 s.n3 s.c3]).alloc (.cells #[.slice x.A1 x.n1 x.c1, .slice x.A2 x.n2 x.c2] 33)
  have hR0 := Blk.new (w.alloc (.cells #[.int .i64 s.ver, .int .i64 s.next, .int .i64 s.keep, .int .i64 s.quota, .slice s.A1 s.n1 s.c1, .slice s.A2 s.n2 s.c2, .slice s.A3 s.n3 s.c3] 29)) 33 [.slice x.A1 x.n1 x.c1, .slice x.A2 x.n2 x.c2]
  have xa : Ext w ((w.alloc (.cells #[.int .i64 s.ver, .int .i64 s.next, .int .i64 s.keep, .int .i64 s.quota, .slice s.A1 s.n1 s.c1, .slice s.A2 s.n2 s.c2, .slice s.A3 s.n3 s.c3] 29)).alloc (.cells #[.slice x.A1 x.n1 x.c1, .slice x.A2 x.n2 x.c2] 33)) := ((Ext.refl w).alloc _).alloc _
  rw [show (w.alloc (.cells #[.int .i64 s.ver, .int .i64 s.next, .int .i64 s.keep, .int .i64 s.quota, .slice s.A1 s.n1 s.c1, .slice s.A2 s.n2 s.c2, .slice s.A3 s.n3 s.c3] 29)).heap.size = w.heap.size + 1 by simp] at hR0
  have h1' : ¬ ver < 1 := by omega
  have h3' : ¬ 3 < ver := by omega
  go_enter Tryz.func24, Tryz.ntmps24
  go_upto_region 1 with fail
  generalize ((w.alloc (.cells #[.int .i64 s.ver, .int .i64 s.next, .int .i64 s.keep, .int .i64 s.quota, .slice s.A1 s.n1 s.c1, .slice s.A2 s.n2 s.c2, .slice s.A3 s.n3 s.c3] 29)).alloc (.cells #[.slice x.A1 x.n1 x.c1, .slice x.A2 x.n2 x.c2] 33)) = W0 at *
  have d0 := hB0.cell 0
  have d1 := hB0.cell 1
  have d2 := hB0.cell 2
  have d3 := hB0.cell 3
  have d4 := hB0.cell 4
  have d5 := hB0.cell 5
  have d6 := hB0.cell 6
  simp only [List.getElem?_cons_zero, List.getElem?_cons_succ] at d0 d1 d2 d3 d4 d5 d6
  go_wp2_with fail
  refine (HM.out _ xa).mono ?_
  rintro e w1 ⟨rfl, x1⟩
  replace xa := xa.trans x1
  replace hB0 := hB0.ext x1
  replace hR0 := hR0.ext x1
  clear HM x1 d0 d1 d2 d3 d4 d5 d6 h1' h3'
  by_cases hkm : km = 0
  case neg =>
    have hb := bne_t (show ((km : Nat) : Int) ≠ 0 by omega)
    have HKP : Hid (KP = ([], km)) := Lib.hid (by rw [HK.out, if_pos hkm])
    clear hkm HK hB0 hR0
    go_wp2_with fail
    exact (HE.out _ _).2 ⟨.slice none 0 0, by rw [HKP.out]; rfl, by rw [HKP.out]; exact World.ownsRow_nil _ _ _ _, xa⟩
  case pos =>
    have HP := Lib.hid (HKM.out hkm)
    subst hkm
    have HK2 : Hid (KP = if ((lowK (topS ver) x.top || decide (s.sns.length < x.more.length)) || x.more.any (lowK (topN ver))) = true then ([], 6) else if firstE (snpsF ver s.sns x.more) ≠ 0 then ([], firstE (snpsF ver s.sns x.more)) else if fmay ST = 0 then (rput ST, 0) else ([], fmay ST)) := Lib.hid (by rw [HK.out, if_neg (by simp)])
    clear HK HKM
    have r0 := hR0.cell 0
    simp only [List.getElem?_cons_zero] at r0
    have HW := Lib.hid (fun b hb => ref10_wrong 5 ver x.A1 x.n1 x.c1 x.top b hb w1 (HXO.out.t1.ext xa) (by omega))
    rcases hlw : lowK (topS ver) x.top with _ | _
    case true =>
      have HKP : Hid (KP = ([], 6)) := Lib.hid (by rw [HK2.out, if_pos (by rw [hlw]; rfl)])
      have HW1 := Lib.hid (HW.out true hlw)
      clear HW hlw HK2 hB0
      go_wp2_with fail
      refine HW1.out.mono ?_
      rintro e w2 ⟨rfl, x2⟩
      clear r0 hR0
      go_wp2_with fail
      exact (HE.out _ _).2 ⟨.slice none 0 0, by rw [HKP.out]; rfl, by rw [HKP.out]; exact World.ownsRow_nil _ _ _ _, xa.trans x2⟩
    case false =>
      have HW1 := Lib.hid (HW.out false hlw)
      have HLW := Lib.hid hlw
      clear HW hlw
      go_wp2_with fail
      refine HW1.out.mono ?_
      rintro e w2 ⟨rfl, x2⟩
      replace xa := xa.trans x2
      replace hB0 := hB0.ext x2
      replace hR0 := hR0.ext x2
      clear r0 HW1 x2
      have r1 := hR0.cell 1
      have d6 := hB0.cell 6
      simp only [List.getElem?_cons_zero, List.getElem?_cons_succ] at r1 d6
      by_cases hlt : s.n3 < x.n2
      case pos =>
        have HKP : Hid (KP = ([], 6)) := Lib.hid (by rw [HK2.out, if_pos (by rw [HLW.out, dec_t (show s.sns.length < x.more.length by omega)]; rfl)])
        have hlt' : (s.n3 : Int) < x.n2 := by omega
        clear HK2 hB0 hR0
        go_wp2_with fail
        exact (HE.out _ _).2 ⟨.slice none 0 0, by rw [HKP.out]; rfl, by rw [HKP.out]; exact World.ownsRow_nil _ _ _ _, xa⟩
      case neg =>
        have hlt' : ¬ (s.n3 : Int) < x.n2 := by omega
        have hldec := dec_f hlt'
        have HB4 := Lib.hid hB0
        have HRR := Lib.hid hR0
        have HXA := Lib.hid xa
        have HK3 : Hid (KP = if x.more.any (lowK (topN ver)) = true then ([], 6) else if firstE (snpsF ver s.sns x.more) ≠ 0 then ([], firstE (snpsF ver s.sns x.more)) else if fmay ST = 0 then (rput ST, 0) else ([], fmay ST)) := Lib.hid (by rw [HK2.out, HLW.out, dec_f (show ¬ s.sns.length < x.more.length by omega)]; rfl)
        clear HK2 HLW hB0 hR0 xa
        go_upto_region 8 with fail
        clear r1 d6 hldec
        go_wp2_with fail
        go_loopw [9] (fun i wr => ∃ j : Nat, i = .int .i64 j ∧ j ≤ x.n2 ∧ Hid ((x.more.take j).any (lowK (topN ver)) = false) ∧ Ext w2 wr) (fun i _ => x.n2 - (intOf i).toNat)
        case atStart => exact ⟨0, rfl, by omega, Lib.hid rfl, Ext.refl w2⟩
        case round =>
          obtain ⟨j, rfl, hj, HJ, hxr⟩ := hrel
          have r1 := (HRR.out.ext hxr).cell 1
          simp only [List.getElem?_cons_zero, List.getElem?_cons_succ] at r1
          by_cases hjn : j < x.n2
          · have hjl : j < x.sns.length := by have := HXO.out.t2.len; omega
            obtain ⟨bb, off, e1, hc⟩ := Wss.cell (HXO.out.t2.ext (HXA.out.trans hxr)) hjn hjl
            have hok := (HXO.out.t2.ext (HXA.out.trans hxr)).ok x.sns[j] (List.getElem_mem _)
            have hln := HFX.out.ln x.sns[j] (List.getElem_mem _)
            have hmj : x.more[j]'(by omega) = x.sns[j].l := by unfold XV.more; rw [List.getElem_map]
            have Hsn : Hid (x.more.take (j + 1) = x.more.take j ++ [x.sns[j].l]) := Lib.hid (by rw [List.take_succ_eq_append_getElem (by omega), hmj])
            have Hbad : Hid (lowK (topN ver) x.sns[j].l = true → x.more.any (lowK (topN ver)) = true) := Lib.hid (fun h => any_bad (j := j) (by omega) (by rw [hmj]; exact h))
            generalize x.sns[j] = f at *
            generalize x.A2 = A2 at *
            subst e1
            have hj0 : (0 : Int) ≤ j := by omega
            have hj1 : (j : Int) < x.n2 := by omega
            have HL := Lib.hid (fun b h => ref10_wrong 2 ver f.A f.len f.cap f.l b h wr hok.fs (by omega))
            clear hok hmj
            rcases h3 : lowK (topN ver) f.l with _ | _
            · have H3 := Lib.hid (HL.out _ h3)
              have H4 := Lib.hid h3
              clear HL h3
              go_wp2_with fail
              refine H3.out.mono ?_
              rintro e w3 ⟨rfl, x3⟩
              go_wp2_with fail
              go_roundw
              case rel => exact ⟨j + 1, val_int (by omega), by omega, Lib.hid (by rw [Hsn.out, List.any_append, HJ.out]; simp [H4.out]), hxr.trans x3⟩
              case measure => simp [intOf]; omega
            · have H3 := Lib.hid (HL.out _ h3)
              have HKP : Hid (KP = ([], 6)) := Lib.hid (by rw [HK3.out, if_pos (Hbad.out h3)])
              clear HL h3
              go_wp2_with fail
              refine H3.out.mono ?_
              rintro e w3 ⟨rfl, x3⟩
              go_wp2_with fail
              exact (HE.out _ _).2 ⟨.slice none 0 0, by rw [HKP.out]; rfl, by rw [HKP.out]; exact World.ownsRow_nil _ _ _ _, HXA.out.trans (hxr.trans x3)⟩
          · obtain rfl : j = x.n2 := by omega
            have hany : x.more.any (lowK (topN ver)) = false := by
              have e := HJ.out
              rw [List.take_of_length_le (by omega)] at e
              exact e
            have HK4 : Hid (KP = if firstE (snpsF ver s.sns x.more) ≠ 0 then ([], firstE (snpsF ver s.sns x.more)) else if fmay ST = 0 then (rput ST, 0) else ([], fmay ST)) := Lib.hid (by rw [HK3.out, hany]; rfl)
            have HB5 := Lib.hid (HB4.out.ext hxr)
            have HR5 := Lib.hid (HRR.out.ext hxr)
            have HX5 := Lib.hid (HXA.out.trans hxr)
            clear HK3 hany HJ HB4 HRR HXA hxr hjn hj
            rename World => w3
            have d0 := HB5.out.cell 0
            have d1 := HB5.out.cell 1
            have d2 := HB5.out.cell 2
            simp only [List.getElem?_cons_zero, List.getElem?_cons_succ] at d0 d1 d2
            have HNUM := Lib.hid (st_nums HP.out)
            go_upto_region 13 with fail
            go_wp2_with fail
            refine (ref10_numbers _ _ _ [s.ver, s.next, s.keep] _ (is_lit w3 [s.ver, s.next, s.keep] _ _ 3 _ rfl rfl (by simp)) (by omega) HNUM.out).mono ?_
            rintro e w4 ⟨v4, rfl, hown4, x4⟩
            have y4 : Ext w3 w4 := ((Ext.refl w3).alloc (.cells #[.int .i64 s.ver, .int .i64 s.next, .int .i64 s.keep] 3)).trans x4
            have HA4 : Hid (AddR v4 w3 (numF 1 [s.ver, s.next, s.keep]) w4) := Lib.hid ⟨_, numF_rowL (own_base (base' := w3.heap.size) hown4 (by simp)) HNUM.out, rfl, y4⟩
            have hN3 : (numF 1 [s.ver, s.next, s.keep]).length ≤ 3 := numF_len [s.ver, s.next, s.keep] 1
            generalize numF 1 [s.ver, s.next, s.keep] = N at *
            clear hown4 x4 d0 d1 d2 HNUM y4 r1
            go_wp2_with fail
            have d4 := (HB5.out.ext HA4.out.x).cell 4
            simp only [List.getElem?_cons_zero, List.getElem?_cons_succ] at d4
            have t1 := HSO.out.t1.ext HX5.out
            have hn1 : s.ses.length = s.n1 := t1.len
            have hm1 := HP.out.nses
            clear d4
            go_loopw [10, 11] (fun v i wr => ∃ j : Nat, i = .int .i64 j ∧ j ≤ s.n1 ∧ AddR v w3 (N ++ recF 4 ((s.ses.take j).map sesF)) wr) (fun _ i _ => s.n1 - (intOf i).toNat)
            case atStart => exact ⟨0, rfl, by omega, HA4.out.cast (by simp [recF])⟩
            case round =>
              clear HA4
              obtain ⟨j, rfl, hj, hA⟩ := hrel
              obtain ⟨v10, rfl⟩ : ∃ v10 : Value, v10 = u10 := ⟨_, rfl⟩
              have d4 := (HB5.out.ext hA.x).cell 4
              simp only [List.getElem?_cons_zero, List.getElem?_cons_succ] at d4
              by_cases hjn : j < s.n1
              · have hjl : j < s.ses.length := by omega
                obtain ⟨bb, off, e1, _, hc⟩ := (t1.ext hA.x).at_ hjn
                have Hsn := Lib.hid (map_take sesF s.ses j hjl)
                have HMY := Lib.hid (ses_may HP.out (List.getElem_mem hjl))
                have HNM := Lib.hid (ses_nums HP.out (List.getElem_mem hjl))
                generalize s.ses[j] = f at *
                generalize s.A1 = A1 at *
                subst e1
                have c0 : wr.cell? ⟨bb, off + j * 4, none⟩ = some (.int .i64 f.client) := hc 0 (by omega)
                have c1 : wr.cell? ⟨bb, off + j * 4 + 1, none⟩ = some (.int .i64 f.seq) := hc 1 (by omega)
                have c2 : wr.cell? ⟨bb, off + j * 4 + 2, none⟩ = some (.int .i64 f.code) := hc 2 (by omega)
                have c3' : wr.cell? ⟨bb, off + j * 4 + 3, none⟩ = some (.int .i64 f.n) := hc 3 (by omega)
                have hj0 : (0 : Int) ≤ j := by omega
                have hj1 : (j : Int) < s.n1 := by omega
                have HA := Lib.hid hA
                clear hc hA
                have hlenS : (N ++ recF 4 ((s.ses.take j).map sesF)).length ≤ 100 := by rw [List.length_append, recF_len, List.length_map, List.length_take]; omega
                go_upto_region 18 with fail
                have b12 := Blk.new wr 63 [.int .i64 f.client, .int .i64 f.seq, .int .i64 f.code, .int .i64 f.n]
                have x12 : Ext wr (wr.alloc (.cells #[.int .i64 f.client, .int .i64 f.seq, .int .i64 f.code, .int .i64 f.n] 63)) := (Ext.refl wr).alloc _
                generalize wr.alloc (.cells #[.int .i64 f.client, .int .i64 f.seq, .int .i64 f.code, .int .i64 f.n] 63) = W2 at *
                have f0 := b12.cell 0
                have f1 := b12.cell 1
                have f2 := b12.cell 2
                have f3 := b12.cell 3
                simp only [List.getElem?_cons_zero, List.getElem?_cons_succ] at f0 f1 f2 f3
                clear c0 c1 c2 c3' d4
                go_wp2_with fail
                refine (ref10_numbers _ _ _ [f.client, f.seq, f.code, f.n] _ (is_lit W2 [f.client, f.seq, f.code, f.n] _ _ 4 _ rfl rfl (by simp)) (by omega) HNM.out).mono ?_
                rintro e w5 ⟨v5, rfl, hown5, x5⟩
                obtain ⟨A5, c5, rfl, _⟩ := own_form hown5
                have y5 : Ext wr w5 := (x12.alloc (.cells #[.int .i64 f.client, .int .i64 f.seq, .int .i64 f.code, .int .i64 f.n] 3)).trans x5
                clear f0 f1 f2 f3
                have HPT := Lib.hid (ref03_Put_ok A5 (numF 1 [f.client, f.seq, f.code, f.n]).length c5 (sesF f) w5 (numF_fs hown5 HNM.out) (by have := numF_len [f.client, f.seq, f.code, f.n] 1; simp at this; omega) HMY.out.1)
                clear hown5
                go_wp2_with fail
                refine HPT.out.mono ?_
                rintro e w6 ⟨v6, rfl, hown6, x6⟩
                obtain ⟨A6, c6, rfl, _⟩ := own_form hown6
                have HA6 := HA.out.ext (y5.trans x6)
                have HI := Lib.hid (ref10_bytesR v10 w3 _ 4 4 rfl A6 (rput (sesF f)).length c6 (rput (sesF f)) w6 HA6 (by omega) (LieF.of_own (B := w5.heap.size) ⟨hown6, show (0 : Nat) < 18446744073709551616 by decide⟩))
                rw [optB_ne HMY.out.2.2] at HI
                clear hown6 HPT HA6 x5 x6 y5 HA b12 x12
                go_wp2_with fail
                refine HI.out.mono ?_
                rintro e w7 ⟨v7, rfl, hA7⟩
                have HA7 := Lib.hid hA7
                clear hA7 HI
                go_wp2_with fail
                go_roundw
                case rel => exact ⟨j + 1, val_int (by omega), by omega, HA7.out.cast (by rw [Hsn.out, recF_snoc, List.append_assoc])⟩
                case measure => simp [intOf]; omega
              · obtain rfl : j = s.n1 := by omega
                rw [List.take_of_length_le (by omega)] at hA
                have HA5 := Lib.hid hA
                have hlN : (N ++ recF 4 (s.ses.map sesF)).length ≤ 11 := by rw [List.length_append, recF_len, List.length_map]; omega
                have HST5 : Hid (ST = (N ++ recF 4 (s.ses.map sesF)) ++ (recF 5 (s.ops.map opnF) ++ (recF 6 (snpsF ver s.sns x.more) ++ ((if 3 ≤ ver ∧ s.quota ≠ 0 then [tfv 7 0 s.quota.toNat []] else []) ++ x.top)))) := Lib.hid (by rw [HSTF.out]; simp only [List.append_assoc])
                generalize N ++ recF 4 (s.ses.map sesF) = N5 at *
                clear hA t1 HSTF hN3 hjn hj
                rename World => wa
                have t2 := HSO.out.t2.ext HX5.out
                have hn2 : s.ops.length = s.n2 := t2.len
                have hm2 := HP.out.nops
                go_wp2_with fail
                clear d4
                go_loopw [10, 15] (fun v i wr => ∃ j : Nat, i = .int .i64 j ∧ j ≤ s.n2 ∧ AddR v w3 (N5 ++ recF 5 ((s.ops.take j).map opnF)) wr) (fun _ i _ => s.n2 - (intOf i).toNat)
                case atStart => exact ⟨0, rfl, by omega, HA5.out.cast (by simp [recF])⟩
                case round =>
                  clear HA5
                  obtain ⟨j, rfl, hj, hA⟩ := hrel
                  obtain ⟨v11, rfl⟩ : ∃ v11 : Value, v11 = u10 := ⟨_, rfl⟩
                  have d5 := (HB5.out.ext hA.x).cell 5
                  simp only [List.getElem?_cons_zero, List.getElem?_cons_succ] at d5
                  by_cases hjn : j < s.n2
                  · have hjl : j < s.ops.length := by omega
                    obtain ⟨bb, off, e1, _, hc⟩ := (t2.ext hA.x).at_ hjn
                    have Hsn := Lib.hid (map_take opnF s.ops j hjl)
                    have HMY := Lib.hid (opn_may HP.out (List.getElem_mem hjl))
                    have HNM := Lib.hid (opn_nums HP.out (List.getElem_mem hjl))
                    generalize s.ops[j] = f at *
                    generalize s.A2 = A1 at *
                    subst e1
                    have c0 : wr.cell? ⟨bb, off + j * 2, none⟩ = some (.int .i64 f.set) := hc 0 (by omega)
                    have c1 : wr.cell? ⟨bb, off + j * 2 + 1, none⟩ = some (.int .i64 f.client) := hc 1 (by omega)
                    have hj0 : (0 : Int) ≤ j := by omega
                    have hj1 : (j : Int) < s.n2 := by omega
                    have HA := Lib.hid hA
                    clear hc hA
                    have hlenS : (N5 ++ recF 5 ((s.ops.take j).map opnF)).length ≤ 100 := by rw [List.length_append, recF_len, List.length_map, List.length_take]; omega
                    have HIL := Lib.hid (is_lit wr [f.set, f.client] #[.int .i64 f.set, .int .i64 f.client] 3 2 wr.heap.size rfl rfl (by simp))
                    go_upto_region 25 with fail
                    go_region_held3 (fun w' => w'.cell? ⟨w.heap.size, 5, none⟩ = some (.slice (some ⟨bb, off, none⟩) s.n2 s.c2) ∧ w'.cell? ⟨bb, off + j * 2, none⟩ = some (.int .i64 f.set) ∧ w'.cell? ⟨bb, off + j * 2 + 1, none⟩ = some (.int .i64 f.client))
                      (first | go_keep | (exact ⟨y5.cell d5, y5.cell c0, y5.cell c1⟩) | (exact ⟨x6.cell (y5.cell d5), x6.cell (y5.cell c0), x6.cell (y5.cell c1)⟩))
                      (first
                        | (go_at_call 54; refine (ref10_numbers _ _ _ [f.set, f.client] _ (HIL.out.ext (Ext.refl _).drew) (by omega) HNM.out).mono ?_; rintro e w5 ⟨v5, rfl, hown5, x5⟩; obtain ⟨A5, c5, rfl, _⟩ := own_form hown5; have y5 : Ext wr w5 := (((Ext.refl wr).alloc (.cells #[.int .i64 f.set, .int .i64 f.client] 3)).drew).trans x5)
                        | (go_at_call 55; refine (ref03_Put_ok A5 (numF 1 [f.set, f.client]).length c5 (opnF f) w5 (numF_fs hown5 HNM.out) (by have := numF_len [f.set, f.client] 1; simp at this; omega) HMY.out.1).mono ?_; rintro e w6 ⟨v6, rfl, hown6, x6⟩; obtain ⟨A6, c6, rfl, _⟩ := own_form hown6))
                    have HA6 := HA.out.ext (y5.trans x6)
                    have HI := Lib.hid (ref10_bytesR v11 w3 _ 5 5 rfl A6 (rput (opnF f)).length c6 (rput (opnF f)) w6 HA6 (by omega) (LieF.of_own (B := w5.heap.size) ⟨hown6, show (0 : Nat) < 18446744073709551616 by decide⟩))
                    rw [optB_ne HMY.out.2.2] at HI
                    clear hown6 hown5 HA6 x5 x6 y5 HA c0 c1 d5
                    go_wp2_with fail
                    refine HI.out.mono ?_
                    rintro e w7 ⟨v7, rfl, hA7⟩
                    have HA7 := Lib.hid hA7
                    clear hA7 HI
                    go_wp2_with fail
                    go_roundw
                    case rel => exact ⟨j + 1, val_int (by omega), by omega, HA7.out.cast (by rw [Hsn.out, recF_snoc, List.append_assoc])⟩
                    case measure => simp [intOf]; omega
                  · obtain rfl : j = s.n2 := by omega
                    rw [List.take_of_length_le (by omega)] at hA
                    have HA6 := Lib.hid hA
                    have hlN6 : (N5 ++ recF 5 (s.ops.map opnF)).length ≤ 19 := by rw [List.length_append, recF_len, List.length_map]; omega
                    have HST6 : Hid (ST = (N5 ++ recF 5 (s.ops.map opnF)) ++ (recF 6 (snpsF ver s.sns x.more) ++ ((if 3 ≤ ver ∧ s.quota ≠ 0 then [tfv 7 0 s.quota.toNat []] else []) ++ x.top))) := Lib.hid (by rw [HST5.out]; simp only [List.append_assoc])
                    generalize N5 ++ recF 5 (s.ops.map opnF) = N6 at *
                    clear hA t2 HST5 hlN hjn hj
                    rename World => wb
                    have t3 := HSO.out.t3.ext HX5.out
                    have hm3 := HP.out.nsns
                    go_wp2_with fail
                    clear d5
                    go_loopw [10, 18] (fun v i wr => ∃ j : Nat, i = .int .i64 j ∧ j ≤ s.n3 ∧ Hid (firstE ((snpsF ver s.sns x.more).take j) = 0) ∧ AddR v w3 (N6 ++ recF 6 ((snpsF ver s.sns x.more).take j)) wr) (fun _ i _ => s.n3 - (intOf i).toNat)
                    case atStart => exact ⟨0, rfl, by omega, Lib.hid rfl, HA6.out.cast (by simp [recF])⟩
                    case round =>
                      clear HA6
                      obtain ⟨j, rfl, hj, HFE, hA⟩ := hrel
                      obtain ⟨v12, rfl⟩ : ∃ v12 : Value, v12 = u10 := ⟨_, rfl⟩
                      have d6 := (HB5.out.ext hA.x).cell 6
                      have r0 := (HR5.out.ext hA.x).cell 0
                      have r1 := (HR5.out.ext hA.x).cell 1
                      simp only [List.getElem?_cons_zero, List.getElem?_cons_succ] at d6 r0 r1
                      by_cases hjn : j < s.n3
                      · have hjl : j < s.sns.length := by omega
                        have hjr : j < (snpsF ver s.sns x.more).length := by rw [snpsF_len]; exact hjl
                        obtain ⟨bb, off, e1, _, hc⟩ := (t3.ext hA.x).at_ hjn
                        have hfo := (t3.ext hA.x).ok s.sns[j] (List.getElem_mem _)
                        have hrow : (snpsF ver s.sns x.more)[j] = snpF ver s.sns[j] (ofM x.more j) := snpsF_get ver s.sns x.more j hjr hjl
                        have Hsn : Hid ((snpsF ver s.sns x.more).take (j + 1) = (snpsF ver s.sns x.more).take j ++ [snpF ver s.sns[j] (ofM x.more j)]) := Lib.hid (by rw [List.take_succ_eq_append_getElem hjr, hrow])
                        have HFB : Hid (fmay (snpF ver s.sns[j] (ofM x.more j)) ≠ 0 → firstE (snpsF ver s.sns x.more) = fmay (snpF ver s.sns[j] (ofM x.more j))) := Lib.hid (fun h => by rw [← hrow]; exact firstE_bad hjr HFE.out (by rw [hrow]; exact h))
                        have HPS := Lib.hid (HP.out.sns s.sns[j] (List.getElem_mem hjl))
                        have HNM := Lib.hid (snp_nums HP.out (List.getElem_mem hjl))
                        have HNE := Lib.hid (snp_ne HP.out ver (List.getElem_mem hjl) (ofM x.more j))
                        have hlenS : (N6 ++ recF 6 ((snpsF ver s.sns x.more).take j)).length ≤ 100 := by rw [List.length_append, recF_len, List.length_take, snpsF_len]; omega
                        clear hrow hjr
                        generalize s.sns[j] = f at *
                        generalize s.A3 = A1 at *
                        subst e1
                        have c0 : wr.cell? ⟨bb, off + j * 5, none⟩ = some (.int .i64 f.id) := hc 0 (by omega)
                        have c1 : wr.cell? ⟨bb, off + j * 5 + 1, none⟩ = some (.int .i64 f.set) := hc 1 (by omega)
                        have c2 : wr.cell? ⟨bb, off + j * 5 + 2, none⟩ = some (.slice f.A f.len f.cap) := hc 2 (by omega)
                        have c3' : wr.cell? ⟨bb, off + j * 5 + 3, none⟩ = some (.bool f.held) := hc 3 (by omega)
                        have c4 : wr.cell? ⟨bb, off + j * 5 + 4, none⟩ = some (.string f.tag) := hc 4 (by omega)
                        have hj0 : (0 : Int) ≤ j := by omega
                        have hj1 : (j : Int) < s.n3 := by omega
                        have HA := Lib.hid hA
                        have HOF := Lib.hid (ref10_Of x j wr.drew (HXO.out.ext (HX5.out.trans (hA.x.trans (Ext.refl wr).drew))) HFX.out)
                        unfold OfPost XV.val at HOF
                        have HSN := Lib.hid (fun (A : Option Addr) (m c : Nat) (W : World) (h : Ext wr W) (hr : Fs W A m (ofM x.more j)) (hm : m ≤ 18000) => ref10_snap f ver A m c (ofM x.more j) W (NV.Ok.ext hfo h) HPS.out.2.2.1 HNM.out HPS.out.2.2.2.2.1 hr hm)
                        unfold SnapPost at HSN
                        clear hc hA hfo
                        go_upto_region 32 with fail
                        go_region_held3 (fun w' => w'.cell? ⟨w.heap.size, 6, none⟩ = some (.slice (some ⟨bb, off, none⟩) s.n3 s.c3) ∧ w'.cell? ⟨bb, off + j * 5, none⟩ = some (.int .i64 f.id) ∧ w'.cell? ⟨bb, off + j * 5 + 1, none⟩ = some (.int .i64 f.set) ∧ w'.cell? ⟨bb, off + j * 5 + 2, none⟩ = some (.slice f.A f.len f.cap) ∧ w'.cell? ⟨bb, off + j * 5 + 3, none⟩ = some (.bool f.held) ∧ w'.cell? ⟨bb, off + j * 5 + 4, none⟩ = some (.string f.tag) ∧ w'.cell? ⟨w.heap.size + 1, 0, none⟩ = some (.slice x.A1 x.n1 x.c1) ∧ w'.cell? ⟨w.heap.size + 1, 1, none⟩ = some (.slice x.A2 x.n2 x.c2))
                          (first | go_keep | (exact ⟨y7.cell d6, y7.cell c0, y7.cell c1, y7.cell c2, y7.cell c3', y7.cell c4, y7.cell r0, y7.cell r1⟩) | (exact ⟨y5.cell d6, y5.cell c0, y5.cell c1, y5.cell c2, y5.cell c3', y5.cell c4, y5.cell r0, y5.cell r1⟩) | (exact ⟨y6.cell d6, y6.cell c0, y6.cell c1, y6.cell c2, y6.cell c3', y6.cell c4, y6.cell r0, y6.cell r1⟩))
                          (first
                            | (go_at_call 27; refine HOF.out.mono ?_; rintro e w5 ⟨A5, n5, c5, rfl, hf5, hn5, x5⟩; have y5 : Ext wr w5 := ((Ext.refl wr).drew).trans x5)
                            | (go_at_call 57; refine (HSN.out A5 n5 c5 _ y5 (hf5.ext x5) hn5).mono ?_; rintro e w6 ⟨A6, n6, c6, D6, rfl, hf6, hs6, hn6, x6⟩; have y6 : Ext wr w6 := y5.trans x6)
                            | (go_at_call 55; refine (ref03_Put_B A6 n6 c6 D6 w6 hf6 (by omega)).mono ?_; rintro e w7 ⟨A7, c7, rfl, hown7, x7⟩; have y7 : Ext wr w7 := y6.trans x7))
                        have hmy := s_may hs6
                        have hpb := s_putB hs6
                        rw [hpb] at hown7 ⊢
                        rw [hmy]
                        have HA7 := Lib.hid (HA.out.ext (y6.trans x7))
                        have HX7 := Lib.hid (HX5.out.trans (HA7.out.x))
                        have HLF := Lib.hid (fun num : Int => LieF.of_own (f := ⟨num, 2, 0, A7, (putB (snpF ver f (ofM x.more j))).length, c7, putB (snpF ver f (ofM x.more j))⟩) (B := w6.heap.size) ⟨hown7, show (0 : Nat) < 18446744073709551616 by decide⟩)
                        clear HOF HSN hf5 hn5 x5 y5 hf6 hs6 hn6 x6 y6 y7 x7 hown7 HA c0 c1 c2 c3' c4 d6 r0 r1 hmy hpb HPS HNM
                        generalize snpF ver f (ofM x.more j) = R at *
                        by_cases hz : fmay R = 0
                        · have hz' : ((fmay R : Nat) : Int) = 0 := by omega
                          have HI := Lib.hid (ref10_bytesR v12 w3 _ 6 6 rfl A7 (putB R).length c7 (putB R) w7 HA7.out (by omega) (HLF.out 6))
                          rw [optB_ne (by rw [putB_ok hz]; exact HNE.out)] at HI
                          have HZ := Lib.hid hz
                          clear HLF HA7 HX7 hz
                          rw [hz']
                          go_wp2_with fail
                          refine HI.out.mono ?_
                          rintro e w8 ⟨v8, rfl, hA8⟩
                          have HA8 := Lib.hid hA8
                          clear hA8 HI
                          go_wp2_with fail
                          go_roundw
                          case rel => exact ⟨j + 1, val_int (by omega), by omega, Lib.hid (by rw [Hsn.out, firstE_snoc, if_pos HFE.out]; exact HZ.out), HA8.out.cast (by rw [Hsn.out, recF_snoc, List.append_assoc, putB_ok HZ.out])⟩
                          case measure => simp [intOf]; omega
                        · have hzb := bne_t (show ((fmay R : Nat) : Int) ≠ 0 by omega)
                          have HKP : Hid (KP = ([], fmay R)) := Lib.hid (by rw [HK4.out, HFB.out hz, if_pos hz])
                          clear HLF hz HFB
                          go_wp2_with fail
                          exact (HE.out _ _).2 ⟨.slice none 0 0, by rw [HKP.out]; rfl, by rw [HKP.out]; exact World.ownsRow_nil _ _ _ _, HX7.out⟩
                      · obtain rfl : j = s.n3 := by omega
                        rw [List.take_of_length_le (by rw [snpsF_len]; omega)] at hA HFE
                        have HA7 := Lib.hid hA
                        have hlN7 : (N6 ++ recF 6 (snpsF ver s.sns x.more)).length ≤ 35 := by rw [List.length_append, recF_len, snpsF_len]; omega
                        have HST7 : Hid (ST = (N6 ++ recF 6 (snpsF ver s.sns x.more)) ++ ((if 3 ≤ ver ∧ s.quota ≠ 0 then [tfv 7 0 s.quota.toNat []] else []) ++ x.top)) := Lib.hid (by rw [HST6.out]; simp only [List.append_assoc])
                        have HK5 : Hid (KP = if fmay ST = 0 then (rput ST, 0) else ([], fmay ST)) := Lib.hid (by rw [HK4.out, if_neg (by simp [HFE.out])])
                        generalize N6 ++ recF 6 (snpsF ver s.sns x.more) = N7 at *
                        clear hA t3 HST6 hlN6 hjn hj HFE HK4
                        rename World => wc
                        go_upto_region 36 with fail
                        clear d6 r0 r1
                        have hB7 := HB5.out.ext HA7.out.x
                        have d3 := hB7.cell 3
                        simp only [List.getElem?_cons_zero, List.getElem?_cons_succ] at d3
                        have hqn := HP.out.quota
                        have h3c : ver < 3 ∨ (3 ≤ ver ∧ s.quota = 0) ∨ (3 ≤ ver ∧ s.quota ≠ 0) := by omega
                        rcases h3c with h3 | ⟨h3, hq0⟩ | ⟨h3, hq0⟩
                        case' inl =>
                          have h3d := dec_f (show ¬ 3 ≤ ver by omega)
                          have HQ : Hid (ST = N7 ++ ([] ++ x.top)) := Lib.hid (by rw [HST7.out, if_neg (by omega)])
                          clear HST7 hB7
                          go_upto_region 38 with fail
                          clear h3d d3
                          have HAd : Hid (AddR v12 w3 (N7 ++ []) wc) := Lib.hid (HA7.out.cast (by simp))
                          have hQ1 : ([] : List FV).length ≤ 1 := Nat.zero_le _
                          generalize ([] : List FV) = Q at HQ HAd hQ1
                          clear HA7 h3
                          obtain ⟨wd, rfl⟩ : ∃ wo : World, wo = wc := ⟨_, rfl⟩
                          obtain ⟨vd, rfl⟩ : ∃ vo : Value, vo = v12 := ⟨_, rfl⟩
                        case' inr.inl =>
                          have h3d := dec_t h3
                          have hqb := bne_f hq0
                          have HQ : Hid (ST = N7 ++ ([] ++ x.top)) := Lib.hid (by rw [HST7.out, if_neg (fun k => k.2 hq0)])
                          clear HST7 hB7
                          go_upto_region 38 with fail
                          clear h3d hqb d3
                          have HAd : Hid (AddR v12 w3 (N7 ++ []) wc) := Lib.hid (HA7.out.cast (by simp))
                          have hQ1 : ([] : List FV).length ≤ 1 := Nat.zero_le _
                          generalize ([] : List FV) = Q at HQ HAd hQ1
                          clear HA7 h3 hq0
                          obtain ⟨wd, rfl⟩ : ∃ wo : World, wo = wc := ⟨_, rfl⟩
                          obtain ⟨vd, rfl⟩ : ∃ vo : Value, vo = v12 := ⟨_, rfl⟩
                        case' inr.inr =>
                          have h3d := dec_t h3
                          have hqb := bne_t hq0
                          have HQ : Hid (ST = N7 ++ ([tfv 7 0 s.quota.toNat []] ++ x.top)) := Lib.hid (by rw [HST7.out, if_pos ⟨h3, hq0⟩])
                          obtain ⟨qn, hqq⟩ : ∃ k : Nat, s.quota = k := ⟨s.quota.toNat, by omega⟩
                          have hqu : U64 qn := by unfold U64; omega
                          have hwr : IntKind.u64.wrap (s.quota : Int) = qn := by rw [hqq]; exact hqu.wrap
                          obtain ⟨d7, hR7, hs7, hx7⟩ := HA7.out
                          have hdl := s_len2 hs7
                          have hrow7 := hR7.row
                          have hsc := hx7.size
                          have HR7 := Lib.hid hR7
                          have HS7 := Lib.hid hs7
                          have HX7 := Lib.hid hx7
                          have HQQ := Lib.hid hqq
                          have HQ0 := Lib.hid hq0
                          clear HST7 hB7 HA7 hR7 hs7 hx7 hqq hqn
                          go_upto_region 38 with (at_builtin; refine wpList_app fieldsT (by omega) _ rfl rfl rfl (hrow7.alloc _) rfl (rd_at4 _ (.int .i64 7) (.int .i64 0) (.int .u64 qn) (.slice none 0 0) _ _ (by simp)) (fcells_one 7 0 qn none 0 0) (by unfold maxLen; omega) (by omega) (by simp; omega) ?_; intro v8 w8 hown8 hg8 hat8)
                          have xal : Ext wc (wc.alloc (.cells #[.int .i64 7, .int .i64 0, .int .u64 qn, .slice none 0 0] 54)) := (Ext.refl wc).alloc _
                          have HAd : Hid (AddR v8 w3 (N7 ++ [tfv 7 0 s.quota.toNat []]) w8) := Lib.hid ⟨_, RowL.app (f := ⟨7, 0, qn, none, 0, 0, []⟩) (HR7.out.ext xal) ((LieF.none_ wc 7 0 qn hqu).ext xal) hg8 hown8, (by rw [List.map_append, HS7.out, List.map_append, HQQ.out]; rfl), Below.app (HX7.out.trans xal) hg8 (HX7.out.trans xal).size (hrow7.alloc _) (Nat.le_refl _)⟩
                          have hQ1 : [tfv 7 0 s.quota.toNat []].length ≤ 1 := Nat.le_refl _
                          generalize [tfv 7 0 s.quota.toNat []] = Q at HQ HAd hQ1
                          clear h3d hqb d3 h3 hwr hown8 hg8 hat8 xal HR7 HS7 HX7 hrow7 hsc hdl HQQ HQ0 hq0
                          obtain ⟨wd, rfl⟩ : ∃ wo : World, wo = w8 := ⟨_, rfl⟩
                          obtain ⟨vd, rfl⟩ : ∃ vo : Value, vo = v8 := ⟨_, rfl⟩
                        all_goals
                          obtain ⟨dd, hRd, hsd, hxd⟩ := HAd.out
                          have hdd : dd.length ≤ 36 := by have := s_len2 hsd; rw [List.length_append] at this; omega
                          have hrow := hRd.row
                          obtain ⟨Ad, cd, rfl, _⟩ := own_form hrow
                          have r9 := (HR5.out.ext hxd).cell 0
                          simp only [List.getElem?_cons_zero] at r9
                          have hft := HXO.out.t1.ext (HX5.out.trans hxd)
                          have hszd := hxd.size
                          have HRD := Lib.hid hRd
                          have HSD := Lib.hid hsd
                          have HXD := Lib.hid hxd
                          clear hRd hsd HAd
                          go_wp2_with (at_builtin; refine wpList_app fieldsT (by omega) _ rfl rfl rfl hrow rfl hft.rd (rowOf_cells _) (by unfold maxLen; omega) (by omega) hszd ?_; intro v10 w10 hown10 hg10 hat10; have x10 := Below.app hxd hg10 hszd hrow (Nat.le_refl _); obtain ⟨A10, c10, rfl, _⟩ := own_form hown10)
                          have hfs : Fs w10 A10 (dd.length + x.n1) (dd ++ x.top) := by
                            refine Fs.of_own (own_to hown10 (Nat.le_refl _) rfl (by rw [rowOf_append])) ?_
                            intro g hg
                            rcases List.mem_append.1 hg with hg | hg
                            · exact ((HRD.out.lie g hg).grown hrow hg10).ok
                            · exact (HXO.out.t1.ok g hg).ext (HX5.out.trans x10)
                          have hs : (dd ++ x.top).map FV.s = ST.map FV.s := by rw [HQ.out, ← List.append_assoc, List.map_append, HSD.out, ← List.map_append]
                          have hm := s_may hs
                          have hp := s_putB hs
                          have HX10 := Lib.hid (HX5.out.trans x10)
                          have Hlen : dd.length + x.n1 ≤ 20000 := by omega
                          have HPB := Lib.hid (ref03_Put_B A10 (dd.length + x.n1) c10 (dd ++ x.top) w10 hfs Hlen)
                          rw [hm, hp] at HPB
                          have HKP : Hid (KP = (putB ST, fmay ST)) := Lib.hid (by
                            rw [HK5.out]
                            unfold putB
                            by_cases hz : fmay ST = 0
                            · rw [if_pos hz, if_pos hz, hz]
                            · rw [if_neg hz, if_neg hz])
                          clear hs hm hp hown10 hg10 hat10 hrow HRD x10 hft r9 HSD HQ hfs hxd HXD
                          refine HPB.out.mono ?_
                          rintro e w11 ⟨A11, c11, rfl, hown11, x11⟩
                          go_wp2_with fail
                          exact (HE.out _ _).2 ⟨_, by rw [HKP.out]; rfl, by rw [HKP.out]; exact own_base hown11 HX10.out.size, HX10.out.trans x11⟩
theorem ref10_Put (s : KV) (x : XV) (ver : Int) (w : World) (hs : s.Ok w) (hx : x.Ok w) (fs : s.Few) (fx : x.Few) :
    Calls Tryz.prog 24 #[s.val, x.val, .int .i64 ver] w (PutPost ver s x w) := by
  rcases hv : inI ver 1 3 with _ | _
  · exact ref10_Put_ver s x ver w hv
  · exact ref10_Put_in s x ver w hs hx fs fx hv
end Go.Proofs.YtiildgoaiookhaaGreat
