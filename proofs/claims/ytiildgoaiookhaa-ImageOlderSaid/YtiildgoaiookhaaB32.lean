/- Words and walks that the last text of this claim stands on: ImZ. No condition. -/
import Derived.Test.YtiildgoaiookhaaB30
import Derived.Test.YtiildgoaiookhaaB31
import Derived.Test.YtiildgoaiookhaaB18
/- The walk of the reader's snap. (Printed by wip/tools/imsnap.py.) -/
namespace Go.Proofs.Ytiildgoaiookhaa
open Go.RowKit

theorem rd_new5 (w : World) (a b c d e : Value) (t : TypeId) : Rd (w.alloc (.cells #[a, b, c, d, e] t)) (some ⟨w.heap.size, 0, none⟩) 1 5 [a, b, c, d, e] := Rd.block w #[a, b, c, d, e] t 1 rfl
theorem RT.gr {w0 w w6 : World} {g : Nat} {ver : Int} {s : KV} {x : XV} {B : Nat} {e : TypeId} {sz n : Nat} {v : Value} {xs : List Value} (h : RT w0 w g ver s x) (hv : w.ownsRow B e sz v n xs) (he : e ≠ 115) (hg : w.grownBy w6 v.ownBlock) :
    Blk w6 g 115 [.int .i64 ver, .int .i64 s.ver, .int .i64 s.next, .int .i64 s.keep, .int .i64 s.quota, .slice s.A1 s.n1 s.c1, .slice s.A2 s.n2 s.c2, .slice s.A3 s.n3 s.c3, .slice x.A1 x.n1 x.c1, .slice x.A2 x.n2 x.c2] :=
  h.blk.grown hg (fun e => own_blk_ne hv h.blk he e.symm)
theorem OwnN.farS {w : World} {B g i : Nat} {f : NV} {l : List Value} (h : OwnN w B f) (hb : Blk w g 33 l) (u : Value) : OwnN (w.setCell ⟨g, i, none⟩ u) B f := ⟨h.u0, h.u1, own_farB h.own hb (by decide) u, h.uc, h.ut⟩
theorem snpOf_snoc (l : List FV) (j : Nat) (h : j < l.length) : snpOf (l.take (j + 1)) = snpStep (snpOf (l.take j)) l[j] := fold_take _ _ l j h
/-- what snap leaves -/
def SnpPost (w0 : World) (g : Nat) (ver : Int) (s : KV) (x : XV) (l : List FV) (w : World) (e : Ending) (w' : World) : Prop :=
  e = .returned (.tuple #[]) ∧ ∃ A c f A' c' y, RS w0 w' g ver (addSns s A c f) (addMore x A' c' y) ∧ f.nq = snpOf (l.filter (loB (topN ver))) ∧ y.l.map FV.s = (l.filter fun f => !loB (topN ver) f).map FV.s ∧ y.len ≤ 17000 ∧ TFr w w'
set_option maxRecDepth 100000 in
set_option maxHeartbeats 6400000 in
theorem reader_snap (w0 : World) (g : Nat) (ver : Int) (s : KV) (x : XV) (A : Option Addr) (n c : Nat) (l : List FV) (w : World) (h : RS w0 w g ver s x) (hf : Fs w A n l) (hn : n ≤ 17000) (hfl : ∀ f ∈ l, f.len ≤ 16384) (hs3 : s.n3 ≤ 20000) (hx2 : x.n2 ≤ 20000) :
    Calls Try.prog 112 #[.pointer (some ⟨g, 0, none⟩), .slice A n c] w (SnpPost w0 g ver s x l w) := by
  have HE : Hid (∀ (W : World) (e : Ending), SnpPost w0 g ver s x l w e W ↔ e = .returned (.tuple #[]) ∧ ∃ A c f A' c' y, RS w0 W g ver (addSns s A c f) (addMore x A' c' y) ∧ f.nq = snpOf (l.filter (loB (topN ver))) ∧ y.l.map FV.s = (l.filter fun f => !loB (topN ver) f).map FV.s ∧ y.len ≤ 17000 ∧ TFr w W) := Lib.hid fun _ _ => Iff.rfl
  generalize SnpPost w0 g ver s x l w = POST at *
  have hlen := hf.len
  have HTP := Lib.hid (fun W => forms_Top 2 ver W)
  have HSP := Lib.hid (fun (W : World) (h : Ext w W) => tlv_Split_own (topN ver) A n c l W (hf.ext h) (by omega) (fun f hf => by have := hfl f hf; omega))
  have HFL : Hid (∀ P : List FV, P.map FV.s = (l.filter (loB (topN ver))).map FV.s → (∀ f ∈ P, f.len ≤ 16384) ∧ P.length ≤ 20000 ∧ snpOf P = snpOf (l.filter (loB (topN ver)))) := Lib.hid (fun P hP => by
    refine ⟨fun f hf => ?_, ?_, s_fold _ s_snp _ _ _ hP⟩
    · have h1 : f.s ∈ (l.filter (loB (topN ver))).map FV.s := by rw [← hP]; exact List.mem_map_of_mem hf
      obtain ⟨k, hk, e⟩ := List.mem_map.1 h1
      have := hfl k (List.mem_filter.1 hk).1
      rw [← (s_parts e).2.2.2.1]; exact this
    · have := congrArg List.length hP
      simp only [List.length_map] at this
      have h2 := List.length_filter_le (loB (topN ver)) l
      omega)
  have HQL : Hid (∀ Q : List FV, Q.map FV.s = (l.filter fun f => !loB (topN ver) f).map FV.s → Q.length ≤ 17000) := Lib.hid (fun Q hQ => by
    have := congrArg List.length hQ
    simp only [List.length_map] at this
    have h2 := List.length_filter_le (fun f => !loB (topN ver) f) l
    omega)
  rw [show topL (specL 2 ver) = topN ver from rfl] at HTP
  have HRS := Lib.hid h
  have o0 := h.blk.cell 0
  simp only [List.getElem?_cons_zero] at o0
  have hgw : g < w.heap.size := h.blk.lt
  clear h hf hfl
  have hX := Blk.new w 33 [.int .i64 0, .int .i64 0, .slice none 0 0, .bool false, .string ⟨#[]⟩]
  have xw : Ext w (w.alloc (.cells #[.int .i64 0, .int .i64 0, .slice none 0 0, .bool false, .string ⟨#[]⟩] 33)) := (Ext.refl w).alloc _
  replace o0 := Ext.cell xw o0
  go_enter Try.func112, Try.ntmps112
  go_upto_region 1 with fail
  generalize hgx : w.heap.size = gx at hX hgw ⊢
  generalize w.alloc (.cells #[.int .i64 0, .int .i64 0, .slice none 0 0, .bool false, .string ⟨#[]⟩] 33) = W0 at *
  have hgxw : w.heap.size ≤ gx := by omega
  clear hgx
  go_wp2_with fail
  refine (HTP.out _).mono ?_
  rintro e w1 ⟨rfl, x1⟩
  go_wp2_with fail
  refine (HSP.out _ (xw.trans x1)).mono ?_
  rintro e w2 ⟨vK, vQ, P, Q, rfl, hoK, hoQ, hfK, hfQ, hPs, hQs, x2⟩
  obtain ⟨AK, cK, rfl, _⟩ := own_form hoK
  obtain ⟨AQ, cQ, rfl, _⟩ := own_form hoQ
  have hX2 := (hX.ext x1).ext x2
  have xw2 := (xw.trans x1).trans x2
  have hbase : w0.heap.size ≤ w1.heap.size := Nat.le_trans HRS.out.ext.size (xw.trans x1).size
  have HPR : Hid (OwnR w2 w0.heap.size (.slice AK P.length cK) P) := Lib.hid (OwnR.to ⟨hoK, hfK⟩ hbase)
  have HQR : Hid (OwnR w2 w0.heap.size (.slice AQ Q.length cQ) Q) := Lib.hid (OwnR.to ⟨hoQ, hfQ⟩ hbase)
  obtain ⟨hPl, hPn, hPo⟩ := HFL.out P hPs
  have hQn := HQL.out Q hQs
  have HQS := Lib.hid hQs
  have HPL := Lib.hid hPl
  have HPO := Lib.hid hPo
  have HSN := Lib.hid (snpOf_snoc P)
  have HX2 := Lib.hid hX2
  have HXW := Lib.hid xw2
  clear hX xw x1 x2 hoK hoQ hfK hfQ hPs hQs hPl hPo hX2 xw2 HSP HTP HFL HQL o0 hlen
  go_wp2_with fail
  go_loopw [21] (fun i wr => ∃ j : Nat, i = .int .i64 j ∧ j ≤ P.length ∧ (∃ X : NV, Blk wr gx 33 [.int .i64 X.id, .int .i64 X.set, .slice X.A X.len X.cap, .bool X.held, .string X.tag] ∧ Hid (X.nq = snpOf (P.take j)) ∧ OwnN wr w0.heap.size X) ∧ Ext w wr ∧ TFr w2 wr) (fun i _ => P.length - (intOf i).toNat)
  case atStart => exact ⟨0, rfl, by omega, ⟨⟨0, 0, none, 0, 0, [], false, ⟨#[]⟩⟩, HX2.out, Lib.hid rfl, ⟨by decide, by decide⟩, ⟨by decide, by decide⟩, World.ownsRow_nil _ _ _ _, by simp, Nat.zero_le _⟩, HXW.out, TFr.refl _⟩
  case round =>
    clear HX2 HXW
    obtain ⟨j, rfl, hj, ⟨X, hX, HXO, hXN⟩, hx, hT⟩ := hrel
    have hPfs := (HPR.out.tfr hT).fs rfl
    by_cases hjn : j < P.length
    · obtain ⟨bb, off, rfl, e0, e1, e2, e3⟩ := hPfs.at_ hjn
      have hfo := hPfs.ok P[j] (List.getElem_mem _)
      have hfl := HPL.out P[j] (List.getElem_mem _)
      have Hsn := Lib.hid (HSN.out j hjn)
      generalize P[j] = f at *
      have hj0 : (0 : Int) ≤ j := by omega
      have hj1 : (j : Int) < P.length := by omega
      have hbs := hfo.bs
      have hle := hfo.le
      obtain ⟨num, wire, nn, fA, fl, fc, fb⟩ := f
      dsimp only at e0 e1 e2 e3 hbs hle hfl
      have hbl := hbs.len
      have xb : Ext wr (wr.alloc (.cells #[.int .i64 num, .int .i64 wire, .int .u64 nn, .slice fA fl fc] 96)) := (Ext.refl wr).alloc _
      have hX2 := hX.ext xb
      have hb2 := hbs.ext xb
      have hw2 : I64 (IntKind.i64.wrap (nn : Int)) := i64_wrap _
      obtain ⟨m, hm⟩ : ∃ m, m = IntKind.i64.wrap (nn : Int) := ⟨_, rfl⟩
      rw [← hm] at hw2
      have Hm := Lib.hid hm
      have hm' : wrap64 (nn : Int) = m := (wrap64_eq _).trans hm.symm
      have HWI := Lib.hid hw2
      have HXN := Lib.hid (hXN.ext xb)
      have HXX := Lib.hid (hx.trans xb)
      have HTT := Lib.hid (hT.trans (TFr.of_ext xb))
      have hbx : w.heap.size ≤ gx := hgxw
      clear hm hw2 hXN hX xb hfo hbs hPfs
      by_cases h1 : num = 1
      · subst h1
        have x0 := hX2.cell 0
        have x1 := hX2.cell 1
        have x2 := hX2.cell 2
        have x3 := hX2.cell 3
        have x4 := hX2.cell 4
        simp only [List.getElem?_cons_zero, List.getElem?_cons_succ] at x0 x1 x2 x3 x4
        have z0 := hX2.frozen 0
        have z1 := hX2.frozen 1
        have z2 := hX2.frozen 2
        have z3 := hX2.frozen 3
        have z4 := hX2.frozen 4
        have HB := Lib.hid hX2
        clear hX2
        clear hb2
        go_wp2_with fail
        clear hm'
        go_roundw
        case rel => exact ⟨j + 1, val_int (by omega), by omega, ⟨⟨m, X.set, X.A, X.len, X.cap, X.ch, X.held, X.tag⟩, HB.out.set_ 0 _, Lib.hid (by rw [Hsn.out, ← HXO.out]; simp [snpStep, NV.nq, ← Hm.out]), ⟨HWI.out, HXN.out.u1, (HXN.out.farS HB.out _).own, HXN.out.uc, HXN.out.ut⟩⟩, HXX.out.setCell (p := ⟨gx, 0, none⟩) hbx _, HTT.out.trans (TFr.setCell HB.out (by decide) _)⟩
        case measure => simp [intOf]; omega
      have H1 := Lib.hid h1
      have g1 := beq_f h1
      clear h1
      by_cases h2 : num = 2
      · subst h2
        have x0 := hX2.cell 0
        have x1 := hX2.cell 1
        have x2 := hX2.cell 2
        have x3 := hX2.cell 3
        have x4 := hX2.cell 4
        simp only [List.getElem?_cons_zero, List.getElem?_cons_succ] at x0 x1 x2 x3 x4
        have z0 := hX2.frozen 0
        have z1 := hX2.frozen 1
        have z2 := hX2.frozen 2
        have z3 := hX2.frozen 3
        have z4 := hX2.frozen 4
        have HB := Lib.hid hX2
        clear hX2
        clear hb2
        go_wp2_with fail
        clear hm'
        go_roundw
        case rel => exact ⟨j + 1, val_int (by omega), by omega, ⟨⟨X.id, m, X.A, X.len, X.cap, X.ch, X.held, X.tag⟩, HB.out.set_ 1 _, Lib.hid (by rw [Hsn.out, ← HXO.out]; simp [snpStep, NV.nq, ← Hm.out]), ⟨HXN.out.u0, HWI.out, (HXN.out.farS HB.out _).own, HXN.out.uc, HXN.out.ut⟩⟩, HXX.out.setCell (p := ⟨gx, 1, none⟩) hbx _, HTT.out.trans (TFr.setCell HB.out (by decide) _)⟩
        case measure => simp [intOf]; omega
      have H2 := Lib.hid h2
      have g2 := beq_f h2
      clear h2
      by_cases h3 : num = 3
      · subst h3
        have HB := Lib.hid hX2
        have HUN := Lib.hid (cmd_Unchunk fA fl fc fb (wr.alloc (.cells #[.int .i64 3, .int .i64 wire, .int .u64 nn, .slice fA fl fc] 96)) hb2 (by omega) hle)
        have HUB : Hid (∀ y ∈ unch fb, I64 y) := Lib.hid (unch_i64 fb)
        unfold UnchPost at HUN
        clear hX2 hb2 hm'
        go_wp2_with fail
        refine HUN.out.mono ?_
        rintro e w4 ⟨A4, c4, code, rfl, ho4, y4⟩
        have hB4 := HB.out.ext y4
        have x0 := hB4.cell 0
        have x1 := hB4.cell 1
        have x2 := hB4.cell 2
        have x3 := hB4.cell 3
        have x4 := hB4.cell 4
        simp only [List.getElem?_cons_zero, List.getElem?_cons_succ] at x0 x1 x2 x3 x4
        have z0 := hB4.frozen 0
        have z1 := hB4.frozen 1
        have z2 := hB4.frozen 2
        have z3 := hB4.frozen 3
        have z4 := hB4.frozen 4
        have HB4 := Lib.hid hB4
        have HO4 : Hid (w4.ownsRow w0.heap.size 3 1 (.slice A4 (unch fb).length c4) (unch fb).length ((unch fb).map (Value.int .i64))) := Lib.hid (own_base ho4 (Nat.le_trans HRS.out.ext.size HXX.out.size))
        have HX4 := Lib.hid (HXX.out.trans y4)
        have HT4 := Lib.hid (HTT.out.trans (TFr.of_ext y4))
        have HN4 := Lib.hid (HXN.out.ext y4)
        clear hB4 ho4 y4 HUN
        go_wp2_with fail
        go_roundw
        case rel => exact ⟨j + 1, val_int (by omega), by omega, ⟨⟨X.id, X.set, A4, (unch fb).length, c4, unch fb, X.held, X.tag⟩, HB4.out.set_ 2 _, Lib.hid (by rw [Hsn.out, ← HXO.out]; simp [snpStep, NV.nq]), ⟨HN4.out.u0, HN4.out.u1, own_farB HO4.out HB4.out (by decide) _, HUB.out, HN4.out.ut⟩⟩, HX4.out.setCell (p := ⟨gx, 2, none⟩) hbx _, HT4.out.trans (TFr.setCell HB4.out (by decide) _)⟩
        case measure => simp [intOf]; omega
      have H3 := Lib.hid h3
      have g3 := beq_f h3
      clear h3
      by_cases h4 : num = 4
      · subst h4
        have x0 := hX2.cell 0
        have x1 := hX2.cell 1
        have x2 := hX2.cell 2
        have x3 := hX2.cell 3
        have x4 := hX2.cell 4
        simp only [List.getElem?_cons_zero, List.getElem?_cons_succ] at x0 x1 x2 x3 x4
        have z0 := hX2.frozen 0
        have z1 := hX2.frozen 1
        have z2 := hX2.frozen 2
        have z3 := hX2.frozen 3
        have z4 := hX2.frozen 4
        have HB := Lib.hid hX2
        clear hX2 hb2 hm'
        by_cases hnn : nn = 0
        · have hq := bne_f (show ((nn : Nat) : Int) = 0 by omega)
          have HNN := Lib.hid hnn
          clear hnn
          go_wp2_with fail
          go_roundw
          case rel => exact ⟨j + 1, val_int (by omega), by omega, ⟨⟨X.id, X.set, X.A, X.len, X.cap, X.ch, false, X.tag⟩, HB.out.set_ 3 _, Lib.hid (by rw [Hsn.out, ← HXO.out]; simp [snpStep, NV.nq, HNN.out]), HXN.out.u0, HXN.out.u1, (HXN.out.farS HB.out _).own, HXN.out.uc, HXN.out.ut⟩, HXX.out.setCell (p := ⟨gx, 3, none⟩) hbx _, HTT.out.trans (TFr.setCell HB.out (by decide) _)⟩
          case measure => simp [intOf]; omega
        · have hq := bne_t (show ((nn : Nat) : Int) ≠ 0 by omega)
          have HNN := Lib.hid hnn
          clear hnn
          go_wp2_with fail
          go_roundw
          case rel => exact ⟨j + 1, val_int (by omega), by omega, ⟨⟨X.id, X.set, X.A, X.len, X.cap, X.ch, true, X.tag⟩, HB.out.set_ 3 _, Lib.hid (by rw [Hsn.out, ← HXO.out]; simp [snpStep, NV.nq, HNN.out]), HXN.out.u0, HXN.out.u1, (HXN.out.farS HB.out _).own, HXN.out.uc, HXN.out.ut⟩, HXX.out.setCell (p := ⟨gx, 3, none⟩) hbx _, HTT.out.trans (TFr.setCell HB.out (by decide) _)⟩
          case measure => simp [intOf]; omega
      have H4 := Lib.hid h4
      have g4 := beq_f h4
      clear h4
      by_cases h5 : num = 5
      · subst h5
        have x0 := hX2.cell 0
        have x1 := hX2.cell 1
        have x2 := hX2.cell 2
        have x3 := hX2.cell 3
        have x4 := hX2.cell 4
        simp only [List.getElem?_cons_zero, List.getElem?_cons_succ] at x0 x1 x2 x3 x4
        have z0 := hX2.frozen 0
        have z1 := hX2.frozen 1
        have z2 := hX2.frozen 2
        have z3 := hX2.frozen 3
        have z4 := hX2.frozen 4
        have HB := Lib.hid hX2
        clear hX2
        have hst := str_at hb2 fc
        clear hb2 hm'
        go_wp2_with fail
        go_roundw
        case rel => exact ⟨j + 1, val_int (by omega), by omega, ⟨⟨X.id, X.set, X.A, X.len, X.cap, X.ch, X.held, bstr fb⟩, HB.out.set_ 4 _, Lib.hid (by rw [Hsn.out, ← HXO.out]; simp [snpStep, NV.nq, bstr]), ⟨HXN.out.u0, HXN.out.u1, (HXN.out.farS HB.out _).own, HXN.out.uc, by show (bstr fb).size ≤ maxLen; have : (bstr fb).size = fb.length := rfl; unfold maxLen; omega⟩⟩, HXX.out.setCell (p := ⟨gx, 4, none⟩) hbx _, HTT.out.trans (TFr.setCell HB.out (by decide) _)⟩
        case measure => simp [intOf]; omega
      have H5 := Lib.hid h5
      have g5 := beq_f h5
      clear h5
      have HB := Lib.hid hX2
      clear hX2 hb2
      go_wp2_with fail
      clear hm'
      go_roundw
      case rel => exact ⟨j + 1, val_int (by omega), by omega, ⟨X, HB.out, Lib.hid (by rw [Hsn.out, ← HXO.out]; simp [snpStep, H1.out, H2.out, H3.out, H4.out, H5.out]), HXN.out⟩, HXX.out, HTT.out⟩
      case measure => simp [intOf]; omega
    · obtain rfl : j = P.length := by omega
      have HXL : Hid (X.nq = snpOf (l.filter (loB (topN ver)))) := Lib.hid (by rw [HXO.out, List.take_length]; exact HPO.out)
      have HSW := Lib.hid (HRS.out.to hx)
      have HXB := Lib.hid hX
      have HTX := Lib.hid hT
      have HT0 := Lib.hid (TFr.of_ext hx)
      have HQW := Lib.hid (HQR.out.tfr hT)
      have HNW := Lib.hid hXN
      have o7 := HSW.out.blk.cell 7
      have x0 := hX.cell 0
      have x1 := hX.cell 1
      have x2 := hX.cell 2
      have x3 := hX.cell 3
      have x4 := hX.cell 4
      simp only [List.getElem?_cons_zero, List.getElem?_cons_succ] at x0 x1 x2 x3 x4
      simp only [List.getElem?_cons_zero, List.getElem?_cons_succ] at o7
      have hszr := HSW.out.ext.size
      have o7' := Ext.cell (((Ext.refl wr).alloc (.cells #[.int .i64 X.id, .int .i64 X.set, .slice X.A X.len X.cap, .bool X.held, .string X.tag] 33)).drew) o7
      have o7'' := Ext.cell ((Ext.refl wr).alloc (.cells #[.int .i64 X.id, .int .i64 X.set, .slice X.A X.len X.cap, .bool X.held, .string X.tag] 33)) o7
      clear HXO hX hx hT hXN HSN HRS HPR HQR hPfs HPL HPO
      go_upto_region 17 with fail
      go_region_law (refine step_app snapsT (by omega) _ rfl rfl (by simp [Act.eval]) (own_ext HSW.out.ok.o3 (by first | exact ((Ext.refl _).alloc _).drew | exact ((Ext.refl _).drew).alloc _)) (by simp [Act.eval]; first | rfl | exact ⟨rfl, rfl, rfl⟩) (by first | exact Rd.ext (rd_new5 _ _ _ _ _ _ _) (Ext.refl _).drew | exact rd_new5 _ _ _ _ _ _ _) (Thing.one (X : NV)) (by unfold maxLen; omega) (by omega) (by simp; omega) ?_; intro v6 w6 hown6 hg6 hat6; obtain ⟨A6, c6, rfl, _⟩ := own_form hown6; have xq6 := ext_at (w := wr) hg6 (by first | exact ((Ext.refl _).alloc _).drew | exact ((Ext.refl _).drew).alloc _); have hS6 := HSW.out.to xq6; have hb6 := hS6.gr hS6.ok.o3 (by decide) hg6; have e6 := hb6.cell 7; have z6 := hb6.frozen 7; simp only [List.getElem?_cons_zero, List.getElem?_cons_succ] at e6)
      all_goals
        have hadd := hS6.addSns (f := X) (HNW.out.ext xq6) hg6 hown6
        have HR7 := Lib.hid hadd.1
        have HT7 := Lib.hid (HT0.out.trans ((TFr.of_ext xq6).trans hadd.2))
        have HQ7 := Lib.hid (HQW.out.tfr ((TFr.of_ext xq6).trans hadd.2))
        clear hadd xq6 hS6 hb6 hg6 hown6 hat6 e6 z6 o7 o7' o7'' x0 x1 x2 x3 x4
        go_upto_region 18 with fail
        generalize w6.setCell ⟨g, 7, none⟩ (.slice A6 (s.n3 + 1) c6) = W7 at *
        have o9 := HR7.out.blk.cell 9
        simp only [List.getElem?_cons_zero, List.getElem?_cons_succ] at o9
        have hz7 := HR7.out.ext.size
        go_wp2_with (at_builtin; refine wpList_app listsT (by omega) _ rfl rfl rfl (own_ext HR7.out.oz.row ((Ext.refl W7).alloc _)) rfl (rd_new1 _ _ _) (one1 rfl) (by unfold maxLen; omega) (by omega) (by simp; omega) ?_; intro v8 w8 hown8 hg8 hat8; obtain ⟨A8, c8, rfl, _⟩ := own_form hown8; have xq8 := ext_at (w := W7) hg8 ((Ext.refl W7).alloc _); have hS8 := HR7.out.to xq8; have hb8 := hS8.gr hS8.oz.row (by decide) hg8; have e8 := hb8.cell 9; have z8 := hb8.frozen 9; simp only [List.getElem?_cons_zero, List.getElem?_cons_succ] at e8)
        have hadd := hS8.addMore (f := ⟨AQ, Q.length, cQ, Q⟩) (HQ7.out.ext xq8) rfl hg8 hown8
        have HR9 := Lib.hid hadd.1
        have HT9 := Lib.hid (HT7.out.trans ((TFr.of_ext xq8).trans hadd.2))
        clear hadd xq8 hS8 hb8 hg8 hown8 hat8 e8 z8 o9
        go_end0
        exact (HE.out _ _).2 ⟨rfl, A6, c6, X, A8, c8, ⟨AQ, Q.length, cQ, Q⟩, HR9.out, HXL.out, HQS.out, hQn, HT9.out⟩
end Go.Proofs.Ytiildgoaiookhaa
