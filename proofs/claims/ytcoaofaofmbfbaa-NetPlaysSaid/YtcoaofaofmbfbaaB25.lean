/- Words and walks that the last text of this claim stands on: RqT. No condition. -/
import Derived.Test.YtcoaofaofmbfbaaB24
import Derived.Test.YtcoaofaofmbfbaaB20
import Derived.Test.YtcoaofaofmbfbaaB23
/- The walk of coracleref16.Take. (Printed by wip/tools/rqtake.py.) -/
namespace Go.Proofs.Ytcoaofaofmbfbaa
open Go.RowKit

theorem alone_num {f : FV} (h : aloneB f = true) : 1 ≤ f.num := by
  unfold aloneB at h
  by_cases h1 : f.num < 1
  · rw [if_pos h1] at h; cases h
  · omega
theorem ref03_Take_own (A : Option Addr) (n c : Nat) (l : List UInt8) (w : World) (hb : Bs w A n l) (hn : n ≤ 100000) (hnc : n ≤ c) :
    Calls Try.prog 59 #[.slice A n c] w fun e w' => ∃ A' c' ms, e = .returned (.tuple #[.slice A' ms.length c', .int .i64 (ttrow l).2]) ∧ OwnR w' w.heap.size (.slice A' ms.length c') ms ∧ ms.map FV.s = (ttrow l).1.map FV.s ∧ Ext w w' := by
  have hl := hb.len
  by_cases h : 16384 < n
  · refine (ref03_Take_big A n c w h).mono ?_
    rintro e w' ⟨rfl, hx⟩
    have : ttrow l = ([], 4) := by unfold ttrow; rw [if_pos (by omega)]
    rw [this]
    exact ⟨none, 0, [], rfl, ⟨World.ownsRow_nil _ _ _ _, by simp⟩, rfl, hx⟩
  · refine (ref03_Take A n c l w hb (by omega) hnc).mono ?_
    rintro e w' ⟨v, ms, rfl, hown, hof, hs, hx⟩
    have : ttrow l = trow none l := by unfold ttrow; rw [if_neg (by omega)]
    rw [this]
    obtain ⟨A', c', rfl, hc⟩ := own_form hown
    exact ⟨A', c', ms, rfl, ⟨hown, hof⟩, hs, hx⟩
set_option maxRecDepth 100000 in
set_option maxHeartbeats 6400000 in
theorem ref16_Take (A : Option Addr) (n c : Nat) (b : List UInt8) (w : World) (hb : Bs w A n b) (hn : n ≤ 100000) (hnc : n ≤ c) :
    Calls Try.prog 22 #[.slice A n c] w (TakePost b w) := by
  have hG := Blk.new w 26 [.int .i64 0, .int .i64 0, .int .i64 0, .int .i64 0, .int .i64 0, .int .i64 0, .int .i64 0, .int .i64 0, .bool false, .slice none 0 0]
  have xw : Ext w (w.alloc (.cells #[.int .i64 0, .int .i64 0, .int .i64 0, .int .i64 0, .int .i64 0, .int .i64 0, .int .i64 0, .int .i64 0, .bool false, .slice none 0 0] 26)) := (Ext.refl w).alloc _
  have HT := Lib.hid (ref03_Take_own A n c b (w.alloc (.cells #[.int .i64 0, .int .i64 0, .int .i64 0, .int .i64 0, .int .i64 0, .int .i64 0, .int .i64 0, .int .i64 0, .bool false, .slice none 0 0] 26)) (hb.ext xw) hn hnc)
  have HTC : Hid (takeCode b = if (ttrow b).2 ≠ 0 then (ttrow b).2 else if checkN (specL 6 1) (ttrow b).1 ≠ 0 then checkN (specL 6 1) (ttrow b).1 else if readE ((ttrow b).1.filter (loB 10)) ≠ 0 then readE ((ttrow b).1.filter (loB 10)) else 6) := Lib.hid rfl
  have HA := Lib.hid (fun (y : LV) (Q : List FV) (h : IsLet b y Q) => h.all)
  have HS := Lib.hid (fun h => ttrow_sound (l := b) h)
  have CT := Lib.hid (fun w => ref04_Top 6 1 w)
  rw [top6] at CT
  generalize ttrow b = tr at *
  obtain ⟨L, er⟩ := tr
  dsimp only at HT HTC HA HS
  have HBB := Lib.hid hb
  clear hb
  have HE : Hid (∀ (W : World) (e : Ending), TakePost b w e W ↔ ∃ (x : LV) (A : Option Addr) (n c : Nat) (ms : List FV) (code : Nat), e = .returned (.tuple #[x.val, .slice A n c, .int .i64 code]) ∧ OwnX W w.heap.size x ∧ Fs W A n ms ∧ n ≤ c ∧ c ≤ maxLen ∧ x.n ≤ 20000 ∧ IsTaken b x ms code ∧ Ext w W) := Lib.hid fun _ _ => Iff.rfl
  go_enter Try.func22, Try.ntmps22
  go_wp2_with fail
  refine HT.out.mono ?_
  rintro e w1 ⟨A1, c1, ms, rfl, hR, hs, x1⟩
  have hf := hR.fs rfl
  replace hG := hG.ext x1
  replace xw := xw.trans x1
  clear HT x1
  by_cases her : er = 0
  · subst her
    have hml : ms.length ≤ 16384 := by
      obtain ⟨k1, k2, k3⟩ := HS.out rfl
      have h1 := rput_field_le L (fmay_ok k3).1
      rw [k2] at h1
      have : ms.length = L.length := by have := congrArg List.length hs; simpa using this
      omega
    have hmok : ∀ f ∈ ms, 1 ≤ f.num ∧ f.len ≤ 16384 := by
      obtain ⟨k1, k2, k3⟩ := HS.out rfl
      rw [← s_may hs] at k3
      exact fun f hf => ⟨alone_num ((fmay_ok k3).1 f hf).1, ((fmay_ok k3).1 f hf).2⟩
    have HSS := Lib.hid hs
    obtain ⟨code, hcode⟩ : ∃ k, k = checkN (specL 6 1) ms := ⟨_, rfl⟩
    have HCC : Hid (checkN (specL 6 1) L = code) := Lib.hid (by rw [hcode, s_check hs])
    have HC := Lib.hid (ref04_Check 6 1 A1 ms.length c1 ms w1 hf (by omega))
    rw [← hcode] at HC
    clear hs HS hcode
    go_wp2_with fail
    refine HC.out.mono ?_
    rintro e w2 ⟨rfl, x2⟩
    replace hG := hG.ext x2
    replace xw := xw.trans x2
    replace hf := hf.ext x2
    have x12 := x2
    clear x2 HC
    by_cases hcd : code = 0
    · subst hcd
      go_wp2_with fail
      refine (CT.out _).mono ?_
      rintro e w3 ⟨rfl, x3⟩
      replace hG := hG.ext x3
      replace xw := xw.trans x3
      replace hf := hf.ext x3
      have hlt3 : w.heap.size < w3.heap.size := hG.lt
      have HSP := Lib.hid (ref03_Split 10 A1 ms.length c1 ms w3 hf (by omega))
      have x23 := x3
      clear x3 CT
      go_wp2_with fail
      refine HSP.out.mono ?_
      rintro e w4 ⟨vK, vQ, rfl, ownP, ownQ, x4⟩
      replace hG := hG.ext x4
      replace xw := xw.trans x4
      replace hf := hf.ext x4
      have x24 := x23.trans x4
      have hPL := s_filter HSS.out 10
      have HPS := Lib.hid hPL.1
      have HQS := Lib.hid hPL.2
      have hPl : (ms.filter (loB 10)).length ≤ 16384 := Nat.le_trans (List.length_filter_le _ _) hml
      have hQl : (ms.filter (fun f => !loB 10 f)).length ≤ 16384 := Nat.le_trans (List.length_filter_le _ _) hml
      have hlw : w.heap.size + 1 ≤ w3.heap.size := hlt3
      have hRf : ∀ f ∈ ms, OwnF w4 (w.heap.size + 1) f := fun f hf' => ((hR.own f hf').to (by simp)).ext (((Ext.refl w1).trans x12).trans x24)
      obtain ⟨AP, cP, rfl, _⟩ := own_form ownP
      obtain ⟨AQ, cQ, rfl, hcQ⟩ := own_form ownQ
      have hcQm := (own_bounds ownQ).2
      have hfP := Fs.of_own ownP fun f hf' => hf.ok f (List.mem_filter.1 hf').1
      have hfQ : OwnR w4 (w.heap.size + 1) (.slice AQ (ms.filter (fun f => !loB 10 f)).length cQ) (ms.filter (fun f => !loB 10 f)) := ⟨own_base ownQ hlw, fun f hf' => hRf f (List.mem_filter.1 hf').1⟩
      have HPB : Hid (∀ f ∈ ms.filter (loB 10), 1 ≤ f.num ∧ f.num ≤ 10 ∧ f.len ≤ 16384) := Lib.hid fun f hf' => by
        obtain ⟨k1, k2⟩ := List.mem_filter.1 hf'
        have := hmok f k1
        simp only [loB, decide_eq_true_eq] at k2
        omega
      have HBM : Hid (∀ f ∈ ms.filter (fun f => !loB 10 f), U64 f.n ∧ f.len = f.b.length) := Lib.hid fun f hf' => ⟨(hf.ok f (List.mem_filter.1 hf').1).u, (hf.ok f (List.mem_filter.1 hf').1).bs.len.symm⟩
      clear HSP ownP ownQ x4 hPL hmok hf hR hRf x12 x23 x24
      generalize ms.filter (loB 10) = P at *
      generalize ms.filter (fun f => !loB 10 f) = Q at *
      have hgN : w.heap.size < w4.heap.size := hG.lt
      go_upto_region 10 with fail
      have hN := (Blk.new w4 91 [.int .i64 0, .int .i64 0, .int .i64 0, .int .i64 0, .int .i64 0, .int .i64 0, .int .i64 0, .int .i64 0, .int .i64 0, .int .i64 0]).alloc (.cells #[.int .i64 0, .int .i64 0, .int .i64 0, .int .i64 0, .int .i64 0, .int .i64 0, .int .i64 0, .int .i64 0, .bool false, .slice none 0 0] 26)
      have hX := Blk.new (w4.alloc (.cells #[.int .i64 0, .int .i64 0, .int .i64 0, .int .i64 0, .int .i64 0, .int .i64 0, .int .i64 0, .int .i64 0, .int .i64 0, .int .i64 0] 91)) 26 [.int .i64 0, .int .i64 0, .int .i64 0, .int .i64 0, .int .i64 0, .int .i64 0, .int .i64 0, .int .i64 0, .bool false, .slice none 0 0]
      rw [show (w4.alloc (.cells #[.int .i64 0, .int .i64 0, .int .i64 0, .int .i64 0, .int .i64 0, .int .i64 0, .int .i64 0, .int .i64 0, .int .i64 0, .int .i64 0] 91)).heap.size = w4.heap.size + 1 by simp] at hX
      have x5 : Ext w4 ((w4.alloc (.cells #[.int .i64 0, .int .i64 0, .int .i64 0, .int .i64 0, .int .i64 0, .int .i64 0, .int .i64 0, .int .i64 0, .int .i64 0, .int .i64 0] 91)).alloc (.cells #[.int .i64 0, .int .i64 0, .int .i64 0, .int .i64 0, .int .i64 0, .int .i64 0, .int .i64 0, .int .i64 0, .bool false, .slice none 0 0] 26)) := ((Ext.refl w4).alloc _).alloc _
      generalize (w4.alloc (.cells #[.int .i64 0, .int .i64 0, .int .i64 0, .int .i64 0, .int .i64 0, .int .i64 0, .int .i64 0, .int .i64 0, .int .i64 0, .int .i64 0] 91)).alloc (.cells #[.int .i64 0, .int .i64 0, .int .i64 0, .int .i64 0, .int .i64 0, .int .i64 0, .int .i64 0, .int .i64 0, .bool false, .slice none 0 0] 26) = W5 at *
      have HX := Lib.hid hX
      have HN := Lib.hid hN
      have HGG4 := Lib.hid hG
      have HFP := Lib.hid hfP
      have HFQ := Lib.hid hfQ
      clear hX hN hG hfP hfQ
      go_wp2_with fail
      go_loopw [11] (fun i wr => ∃ j : Nat, i = .int .i64 j ∧ j ≤ P.length ∧ (∃ (arr : List Int) (A : Option Addr) (n' cp : Nat) (l : List EV), Blk wr w4.heap.size 91 (arr.map (Value.int .i64)) ∧ Blk wr (w4.heap.size + 1) 26 [.int .i64 0, .int .i64 0, .int .i64 0, .int .i64 0, .int .i64 0, .int .i64 0, .int .i64 0, .int .i64 0, .bool false, .slice A n' cp] ∧ wr.ownsRow w4.heap.size 31 2 (.slice A n' cp) n' (logOf l) ∧ (∀ y ∈ l, OwnE wr w4.heap.size y) ∧ n' ≤ j ∧ Hid (readM (P.take j) = (arr, l.map EV.p))) ∧ Hid (readE (P.take j) = 0) ∧ Ext w4 wr) (fun i _ => P.length - (intOf i).toNat)
      case atStart => exact ⟨0, rfl, by omega, ⟨[0, 0, 0, 0, 0, 0, 0, 0, 0, 0], none, 0, 0, [], HN.out, HX.out, World.ownsRow_nil _ _ _ _, by simp, Nat.le_refl _, Lib.hid rfl⟩, Lib.hid rfl, x5⟩
      case round =>
        clear HX HN x5
        obtain ⟨j, rfl, hj, ⟨arr, XA, Xn, Xc, l, hN, hX, hown, hoe, hnj, HRM⟩, HRE, hx⟩ := hrel
        by_cases hjn : j < P.length
        · have hjl := hjn
          obtain ⟨bb, off, rfl, e0, e1, e2, e3⟩ := (HFP.out.ext hx).at_ hjn
          have hfo := (HFP.out.ext hx).ok P[j] (List.getElem_mem _)
          obtain ⟨hb1, hb10, hfl⟩ := HPB.out P[j] (List.getElem_mem _)
          have Hsn := Lib.hid (readM_snoc P j hjl)
          have Hen := Lib.hid (readE_snoc P j hjl HRE.out)
          have Hbd := Lib.hid (fun h1 h2 => readE_bad P j hjl HRE.out h1 h2)
          generalize P[j] = f at *
          have hj0 : (0 : Int) ≤ j := by omega
          have hj1 : (j : Int) < P.length := by omega
          have hbs := hfo.bs
          have hle := hfo.le
          obtain ⟨num, wire, nn, fA, fl, fc, fb⟩ := f
          dsimp only at e0 e1 e2 e3 hbs hfl hle hb1 hb10
          clear hfo
          obtain ⟨k, rfl⟩ : ∃ k : Nat, num = k := ⟨num.toNat, by omega⟩
          have xb : Ext wr (wr.alloc (.cells #[.int .i64 k, .int .i64 wire, .int .u64 nn, .slice fA fl fc] 75)) := (Ext.refl wr).alloc _
          have hN2 := hN.ext xb
          have hX2 := hX.ext xb
          have how2 := own_ext hown xb
          have hbs2 := hbs.ext xb
          have hal : arr.length = 10 := by have := (readM_bd (P.take j)).1; rw [HRM.out] at this; exact this
          by_cases hk : k < 10
          · have hki : ((k : Nat) : Int) < 10 := by omega
            have hk0 : (0 : Int) ≤ k := by omega
            have hkl : k < arr.length := by omega
            have qk := hN2.cell k
            rw [List.getElem?_map, List.getElem?_eq_getElem hkl] at qk
            simp only [Option.map_some] at qk
            have zk := hN2.frozen k
            have HNN := Lib.hid hN2
            have HXX := Lib.hid hX2
            have HOW := Lib.hid how2
            have HOE := Lib.hid fun y hy => (hoe y hy).ext xb
            have hK := Lib.hid hki
            have hxx := hx.trans xb
            clear hN hN2 hX hX2 how2 hown hoe hbs hbs2 hx xb
            go_wp2_with fail
            go_roundw
            case rel =>
              refine ⟨j + 1, val_int (by omega), by omega, ⟨arr.set k (minN nn), XA, Xn, Xc, l, ?_, HXX.out.far (by show w4.heap.size + 1 ≠ w4.heap.size; omega) _, own_far' HOW.out (own_blk_ne HOW.out HNN.out (by decide)) _, fun y hy => ⟨own_far' (HOE.out y hy).own (own_blk_ne (HOE.out y hy).own HNN.out (by decide)) _, (HOE.out y hy).t⟩, by omega, Lib.hid ?_⟩, Lib.hid ?_, hxx.setCell (Nat.le_refl _) _⟩
              · rw [List.map_set]; exact HNN.out.set_ k _
              · rw [Hsn.out, HRM.out]; simp [stepM, hK.out]
              · rw [Hen.out, if_neg]; intro h; have := h.1; have := hK.out; simp only at *; omega
            case measure => simp [intOf]; omega
          · have hki : ¬ ((k : Int) < 10) := by omega
            have hk10 : k = 10 := by omega
            have hte : ttrow fb = trow none fb := by unfold ttrow; rw [if_neg (by have := hbs.len; omega)]
            have HEC : Hid (entCode fb = if (trow none fb).2 ≠ 0 then (trow none fb).2 else checkN (specL 7 1) (trow none fb).1) := Lib.hid (by unfold entCode; rw [hte])
            have HES : Hid (entOfM (ttrow fb).1 = entOfM (trow none fb).1) := Lib.hid (by rw [hte])
            have HT2 := Lib.hid (ref03_Take fA fl fc fb _ hbs2 hfl hle)
            have HS2 := Lib.hid (fun h => ttrow_sound (l := fb) h)
            rw [hte] at HS2
            clear hte
            generalize trow none fb = tr at *
            obtain ⟨L2, er2⟩ := tr
            dsimp only at HEC HES HT2 HS2
            have HXX := Lib.hid hX2
            have HNN := Lib.hid hN2
            have HOW := Lib.hid how2
            have HOE := Lib.hid fun y hy => (hoe y hy).ext xb
            have hxx := hx.trans xb
            have Hk := Lib.hid hk10
            clear hN hN2 hX hX2 how2 hown hoe hbs hbs2 hx xb hk10
            go_wp2_with fail
            refine HT2.out.mono ?_
            rintro e w6 ⟨v6, ms6, rfl, own6, of6, hs6, x6⟩
            obtain ⟨A6, c6, rfl, hc6⟩ := own_form own6
            have hf6 := Fs.of_own own6 fun f hf => (of6 f hf).ok
            have hx6 := hxx.trans x6
            have hG := HGG4.out.ext hx6
            have xw6 := xw.trans hx6
            clear HT2
            by_cases her2 : er2 = 0
            · subst her2
              have hml6 : ms6.length ≤ 16384 := by
                obtain ⟨k1, k2, k3⟩ := HS2.out rfl
                have h1 := rput_field_le L2 (fmay_ok k3).1
                rw [k2] at h1
                have : ms6.length = L2.length := by have := congrArg List.length hs6; simpa using this
                omega
              have HES2 : Hid (entOfM ms6 = entOfM (ttrow fb).1) := Lib.hid (by rw [HES.out]; exact s_entOfM hs6)
              obtain ⟨code6, hcode6⟩ : ∃ k, k = checkN (specL 7 1) ms6 := ⟨_, rfl⟩
              have HEC2 : Hid (entCode fb = code6) := Lib.hid (by rw [HEC.out, if_neg (by simp), hcode6, s_check hs6])
              have HC6 := Lib.hid (ref04_Check 7 1 A6 ms6.length c6 ms6 w6 hf6 (by omega))
              rw [← hcode6] at HC6
              clear HEC HES HS2 hs6 hcode6 hf6
              have HO6 := Lib.hid own6
              have HF6 := Lib.hid of6
              clear own6 of6
              go_wp2_with fail
              refine HC6.out.mono ?_
              rintro e w7 ⟨rfl, x7⟩
              have hx7 := hx6.trans x7
              have x67 := x6.trans x7
              replace hG := hG.ext x7
              replace xw6 := xw6.trans x7
              clear HC6
              by_cases hcd6 : code6 = 0
              · subst hcd6
                have hgl7 : w.heap.size < w7.heap.size := hG.lt
                have HX7 := Lib.hid (HXX.out.ext x67)
                have HN7 := Lib.hid (HNN.out.ext x67)
                have HOW7 := Lib.hid (own_ext HOW.out x67)
                have HOE7 := Lib.hid fun y hy => (HOE.out y hy).ext x67
                have hw44 : w4.heap.size ≤ (wr.alloc (.cells #[.int .i64 k, .int .i64 wire, .int .u64 nn, .slice fA fl fc] 75)).heap.size := hxx.size
                have HF7 : Hid (∀ f ∈ ms6, OwnF w7 w4.heap.size f) := Lib.hid fun f hf => ((HF6.out f hf).ext x7).to hw44
                have hf7 := Fs.of_own (own_ext HO6.out x7) fun f hf => (HF7.out f hf).ok
                have HRW7 := Lib.hid (own_ext HO6.out x7)
                have hgX7 : w4.heap.size + 1 < w7.heap.size := by have := HX7.out.lt; omega
                clear HXX HNN HOW HOE HO6 HF6 hG hxx xw6 hx6 x67 x6 hw44
                go_upto_region 23 with fail
                have hY := Blk.new w7 31 [.int .i64 0, .slice none 0 0]
                have x8 : Ext w7 (w7.alloc (.cells #[.int .i64 0, .slice none 0 0] 31)) := (Ext.refl w7).alloc _
                generalize hgY : w7.heap.size = gY at hY ⊢
                generalize w7.alloc (.cells #[.int .i64 0, .slice none 0 0] 31) = W8 at *
                have hgY7 : w7.heap.size ≤ gY := by omega
                clear hgY
                have HY := Lib.hid hY
                have HF8 := Lib.hid hf7
                clear hY hf7
                go_wp2_with fail
                go_loopw [16] (fun i wx => ∃ q : Nat, i = .int .i64 q ∧ q ≤ ms6.length ∧ (∃ y : EV, Blk wx gY 31 [.int .i64 y.term, .slice y.A y.len y.cap] ∧ OwnE wx w4.heap.size y ∧ Hid (y.p = entOfM (ms6.take q))) ∧ Ext w7 wx) (fun i _ => ms6.length - (intOf i).toNat)
                case atStart => exact ⟨0, rfl, by omega, ⟨⟨0, none, 0, 0, []⟩, HY.out, OwnE.zero _ _, Lib.hid rfl⟩, x8⟩
                case round =>
                  clear HY x8
                  obtain ⟨wx, rfl⟩ : ∃ wx : World, wx = wr := ⟨_, rfl⟩
                  obtain ⟨q, rfl, hq, ⟨y, hY, hoy, HYP⟩, hxq⟩ := hrel
                  obtain ⟨yt, yA, yn, yc, yb⟩ := y
                  dsimp only at hY
                  by_cases hqn : q < ms6.length
                  · have hql := hqn
                    obtain ⟨b6, off6, rfl, d0, d1, d2, d3⟩ := (HF8.out.ext hxq).at_ hqn
                    have hfo := (HF7.out ms6[q] (List.getElem_mem _)).ext hxq
                    have Hsq := Lib.hid (entOfM_snoc ms6 q hql)
                    generalize ms6[q] = f at *
                    have hq0 : (0 : Int) ≤ q := by omega
                    have hq1 : (q : Int) < ms6.length := by omega
                    obtain ⟨num6, wire6, nn6, fA6, fl6, fc6, fb6⟩ := f
                    dsimp only at d0 d1 d2 d3
                    have hbne : b6 ≠ gY := fun e => own_blk_ne (own_ext HRW7.out hxq) hY (by decide) (by rw [e]; rfl)
                    have HYY := Lib.hid hY
                    have HOY := Lib.hid hoy
                    have HFO := Lib.hid hfo
                    by_cases h1 : num6 = 1
                    · have y0 := hY.cell 0
                      have z0 := hY.frozen 0
                      simp only [List.getElem?_cons_zero] at y0
                      have H1 := Lib.hid h1
                      have b1 := beq_t h1
                      have b2 := beq_f (show num6 ≠ 2 by omega)
                      clear hY hoy hfo h1
                      go_wp2_with fail
                      go_roundw
                      case rel => exact ⟨q + 1, val_int (by omega), by omega, ⟨⟨minN nn6, yA, yn, yc, yb⟩, HYY.out.set_ 0 _, ⟨(HOY.out.far HYY.out _).own, ⟨by have := minN_nn nn6; show _ ≤ minN nn6; omega, by have := minN_nn nn6; show minN nn6 ≤ _; omega⟩⟩, Lib.hid (by rw [Hsq.out, ← HYP.out]; simp [entStepM, EV.p, H1.out])⟩, hxq.setCell hgY7 _⟩
                      case measure => simp [intOf]; omega
                    · by_cases h2 : num6 = 2
                      · have y1 := hY.cell 1
                        have z1 := hY.frozen 1
                        simp only [List.getElem?_cons_zero, List.getElem?_cons_succ] at y1
                        have H2 := Lib.hid h2
                        have b1 := beq_f h1
                        have b2 := beq_t h2
                        clear hY hoy hfo h1 h2
                        go_wp2_with fail
                        go_roundw
                        case rel => exact ⟨q + 1, val_int (by omega), by omega, ⟨⟨yt, fA6, fl6, fc6, fb6⟩, HYY.out.set_ 1 _, ⟨own_far' HFO.out.1 (own_blk_ne HFO.out.1 HYY.out (by decide)) _, HOY.out.t⟩, Lib.hid (by rw [Hsq.out, ← HYP.out]; simp [entStepM, EV.p, H2.out])⟩, hxq.setCell hgY7 _⟩
                        case measure => simp [intOf]; omega
                      · have H1 := Lib.hid h1
                        have H2 := Lib.hid h2
                        have b1 := beq_f h1
                        have b2 := beq_f h2
                        clear hY hoy hfo h1 h2
                        go_wp2_with fail
                        go_roundw
                        case rel => exact ⟨q + 1, val_int (by omega), by omega, ⟨⟨yt, yA, yn, yc, yb⟩, HYY.out, HOY.out, Lib.hid (by rw [Hsq.out, ← HYP.out]; simp [entStepM, H1.out, H2.out])⟩, hxq⟩
                        case measure => simp [intOf]; omega
                  · have HYP2 : Hid ((⟨yt, yA, yn, yc, yb⟩ : EV).p = entOfM (ttrow fb).1) := Lib.hid (by rw [HYP.out, List.take_of_length_le (by omega), HES2.out])
                    have hq1 : ¬ ((q : Int) < ms6.length) := by omega
                    have y0 := hY.cell 0
                    have y1 := hY.cell 1
                    have hXq := HX7.out.ext hxq
                    have q9 := hXq.cell 9
                    simp only [List.getElem?_cons_zero, List.getElem?_cons_succ] at y0 y1 q9
                    have xal : Ext wx (wx.alloc (.cells #[.int .i64 yt, .slice yA yn yc] 31)) := (Ext.refl wx).alloc _
                    have hrow := own_ext (own_ext HOW7.out hxq) xal
                    have HXq := Lib.hid (hXq.ext xal)
                    have HNq := Lib.hid ((HN7.out.ext hxq).ext xal)
                    have HOEq := Lib.hid fun y hy => ((HOE7.out y hy).ext hxq).ext xal
                    have HOY := Lib.hid (hoy.ext xal)
                    have hxw := (hx7.trans hxq).trans xal
                    have hsz := (hx7.trans hxq).size
                    clear hXq hoy hY HX7 HN7 HOW7 HOE7 HF7 HF8 HRW7 xal HYP HES2 hxq
                    go_wp2_with (at_builtin; refine wpList_app entsT (by omega) _ rfl rfl rfl hrow rfl (rd_at2 _ (.int .i64 yt) (.slice yA yn yc) _ _ (by simp)) (ecells_one _ _ _ _) (by unfold maxLen; omega) (by omega) (by simp; omega) ?_; intro v9 w9 hown9 hg9 hat9; obtain ⟨A9, c9, rfl, _⟩ := own_form hown9; have hX9 := HXq.out.grown hg9 (fun e => own_blk_ne hrow HXq.out (by decide) e.symm); have x9 := hX9.cell 9; have z9 := hX9.frozen 9; simp only [List.getElem?_cons_zero, List.getElem?_cons_succ] at x9)
                    have hN9 := HNq.out.grown hg9 (fun e => own_blk_ne hrow HNq.out (by decide) e.symm)
                    have hx9 := Below.app hxw hg9 (by simp; omega) hrow (Nat.le_refl _)
                    have HOE9 : Hid (∀ y ∈ l ++ [⟨yt, yA, yn, yc, yb⟩], OwnE w9 w4.heap.size y) := Lib.hid fun y hy => by
                      have far : ∀ z, OwnE _ w4.heap.size z → OwnE w9 w4.heap.size z := fun z hz => ⟨own_grown hz.own hg9 (own_apart hz.own hrow (by decide)), hz.t⟩
                      rcases List.mem_append.1 hy with hy | hy
                      · exact far y (HOEq.out y hy)
                      · simp only [List.mem_singleton] at hy
                        subst hy; exact far _ HOY.out
                    have HX9 := Lib.hid hX9
                    have HN9 := Lib.hid hN9
                    have HOW9 := Lib.hid (own_to (ys := logOf (l ++ [⟨yt, yA, yn, yc, yb⟩])) hown9 (Nat.le_refl _) rfl (by rw [logOf_append, logOf_one]; rfl))
                    have Hx9 := Lib.hid hx9
                    clear hX9 hN9 hx9 hown9 hg9 hat9 x9 z9 hrow HXq HNq HOEq HOY hxw
                    go_roundw
                    case rel =>
                      refine ⟨j + 1, val_int (by omega), by omega, ⟨arr, A9, Xn + 1, c9, l ++ [⟨yt, yA, yn, yc, yb⟩], HN9.out.far (by show w4.heap.size ≠ w4.heap.size + 1; omega) _, HX9.out.set_ 9 _, own_far' HOW9.out (own_blk_ne HOW9.out HX9.out (by decide)) _, fun y hy => ⟨own_far' (HOE9.out y hy).own (own_blk_ne (HOE9.out y hy).own HX9.out (by decide)) _, (HOE9.out y hy).t⟩, by omega, Lib.hid ?_⟩, Lib.hid ?_, Ext.setCell Hx9.out (by show w4.heap.size ≤ w4.heap.size + 1; omega) _⟩
                      · rw [Hsn.out, HRM.out]; simp [stepM, hki, ← HYP2.out]
                      · rw [Hen.out, if_neg (by intro h; exact h.2 HEC2.out)]
                    case measure => simp [intOf]; omega
              · have hcd' := bne_t (show ((code6 : Nat) : Int) ≠ 0 by omega)
                have HC0 := Lib.hid hcd6
                have HRP : Hid (readE P = code6) := Lib.hid (by rw [← HEC2.out]; exact Hbd.out (by show ((k : Nat) : Int) = 10; rw [Hk.out]; rfl) (by rw [HEC2.out]; exact hcd6))
                have HNO : Hid (∀ y R, ¬ IsLet b y R) := Lib.hid (fun y R h => by
                  obtain ⟨_, _, k3, _⟩ := HA.out y R h
                  have e1 := s_readE (k3 P HPS.out)
                  rw [let_readE h.may h.bx, HRP.out] at e1
                  exact hcd6 e1)
                have HTR : Hid (code6 = takeCode b) := Lib.hid (by rw [HTC.out, if_neg (by simp), if_neg (by rw [HCC.out]; simp), ← s_readE HPS.out, HRP.out, if_pos hcd6])
                clear hcd6
                have g0 := hG.cell 0
                have g1 := hG.cell 1
                have g2 := hG.cell 2
                have g3 := hG.cell 3
                have g4 := hG.cell 4
                have g5 := hG.cell 5
                have g6 := hG.cell 6
                have g7 := hG.cell 7
                have g8 := hG.cell 8
                have g9 := hG.cell 9
                simp only [List.getElem?_cons_zero, List.getElem?_cons_succ] at g0 g1 g2 g3 g4 g5 g6 g7 g8 g9
                have z0 := hG.frozen 0
                have z1 := hG.frozen 1
                have z2 := hG.frozen 2
                have z3 := hG.frozen 3
                have z4 := hG.frozen 4
                have z5 := hG.frozen 5
                have z6 := hG.frozen 6
                have z7 := hG.frozen 7
                have z8 := hG.frozen 8
                have z9 := hG.frozen 9
                have HGG := Lib.hid hG
                clear hG
                go_wp2_with fail
                refine bodyPost_ret (v := .tuple #[.agg #[.int .i64 0, .int .i64 0, .int .i64 0, .int .i64 0, .int .i64 0, .int .i64 0, .int .i64 0, .int .i64 0, .bool false, .slice none 0 0], .slice none 0 0, .int .i64 code6]) (by simp [results, Try.results22, go_sem, g0, g1, g2, g3, g4, g5, g6, g7, g8, g9]) rfl ?_
                exact (HE.out _ _).2 ⟨zeroX, none, 0, 0, [], code6, rfl, OwnX.zero _ _, Fs.nil_ _ _, Nat.le_refl _, by unfold maxLen; omega, Nat.zero_le _, .inr ⟨HC0.out, rfl, rfl, HTR.out, HNO.out⟩, xw6.st10 (Nat.le_refl _) (.int .i64 0) (.int .i64 0) (.int .i64 0) (.int .i64 0) (.int .i64 0) (.int .i64 0) (.int .i64 0) (.int .i64 0) (.bool false) (.slice none 0 0)⟩
            · have her' := bne_t (show ((er2 : Nat) : Int) ≠ 0 by omega)
              have HC0 := Lib.hid her2
              have HRP : Hid (readE P = er2) := Lib.hid (by have e : entCode fb = er2 := (by rw [HEC.out, if_pos her2]); rw [← e]; exact Hbd.out (by show ((k : Nat) : Int) = 10; rw [Hk.out]; rfl) (by rw [e]; exact her2))
              have HNO : Hid (∀ y R, ¬ IsLet b y R) := Lib.hid (fun y R h => by
                obtain ⟨_, _, k3, _⟩ := HA.out y R h
                have e1 := s_readE (k3 P HPS.out)
                rw [let_readE h.may h.bx, HRP.out] at e1
                exact her2 e1)
              have HTR : Hid (er2 = takeCode b) := Lib.hid (by rw [HTC.out, if_neg (by simp), if_neg (by rw [HCC.out]; simp), ← s_readE HPS.out, HRP.out, if_pos her2])
              clear her2 hs6 HS2
              have g0 := hG.cell 0
              have g1 := hG.cell 1
              have g2 := hG.cell 2
              have g3 := hG.cell 3
              have g4 := hG.cell 4
              have g5 := hG.cell 5
              have g6 := hG.cell 6
              have g7 := hG.cell 7
              have g8 := hG.cell 8
              have g9 := hG.cell 9
              simp only [List.getElem?_cons_zero, List.getElem?_cons_succ] at g0 g1 g2 g3 g4 g5 g6 g7 g8 g9
              have z0 := hG.frozen 0
              have z1 := hG.frozen 1
              have z2 := hG.frozen 2
              have z3 := hG.frozen 3
              have z4 := hG.frozen 4
              have z5 := hG.frozen 5
              have z6 := hG.frozen 6
              have z7 := hG.frozen 7
              have z8 := hG.frozen 8
              have z9 := hG.frozen 9
              have HGG := Lib.hid hG
              clear hG
              go_wp2_with fail
              refine bodyPost_ret (v := .tuple #[.agg #[.int .i64 0, .int .i64 0, .int .i64 0, .int .i64 0, .int .i64 0, .int .i64 0, .int .i64 0, .int .i64 0, .bool false, .slice none 0 0], .slice none 0 0, .int .i64 er2]) (by simp [results, Try.results22, go_sem, g0, g1, g2, g3, g4, g5, g6, g7, g8, g9]) rfl ?_
              exact (HE.out _ _).2 ⟨zeroX, none, 0, 0, [], er2, rfl, OwnX.zero _ _, Fs.nil_ _ _, Nat.le_refl _, by unfold maxLen; omega, Nat.zero_le _, .inr ⟨HC0.out, rfl, rfl, HTR.out, HNO.out⟩, xw6.st10 (Nat.le_refl _) (.int .i64 0) (.int .i64 0) (.int .i64 0) (.int .i64 0) (.int .i64 0) (.int .i64 0) (.int .i64 0) (.int .i64 0) (.bool false) (.slice none 0 0)⟩
        · have hj1 : ¬ ((j : Int) < P.length) := by omega
          have hre0 : readE P = 0 := by have := HRE.out; rwa [List.take_of_length_le (by omega)] at this
          have hrm : readM P = (arr, l.map EV.p) := by have := HRM.out; rwa [List.take_of_length_le (by omega)] at this
          obtain ⟨hal, hab⟩ := readM_bd P
          rw [hrm] at hal hab
          dsimp only at hal hab
          obtain ⟨a0, a1, a2, a3, a4, a5, a6, a7, a8, a9, rfl⟩ := ten hal
          have v1 := hab a1 (by simp)
          have v2 := hab a2 (by simp)
          have v3 := hab a3 (by simp)
          have v4 := hab a4 (by simp)
          have v5 := hab a5 (by simp)
          have v6 := hab a6 (by simp)
          have v7 := hab a7 (by simp)
          have v8 := hab a8 (by simp)
          have v9 := hab a9 (by simp)
          have HRE0 := Lib.hid hre0
          have HRMP := Lib.hid hrm
          clear HRE HRM hab hal hre0 hrm HFP HPB
          simp only [List.map_cons, List.map_nil] at hN
          have n0 := hN.cell 0
          have n1 := hN.cell 1
          have n2 := hN.cell 2
          have n3 := hN.cell 3
          have n4 := hN.cell 4
          have n5 := hN.cell 5
          have n6 := hN.cell 6
          have n7 := hN.cell 7
          have n8 := hN.cell 8
          have n9 := hN.cell 9
          simp only [List.getElem?_cons_zero, List.getElem?_cons_succ] at n0 n1 n2 n3 n4 n5 n6 n7 n8 n9
          have q0 := hX.cell 0
          have q1 := hX.cell 1
          have q2 := hX.cell 2
          have q3 := hX.cell 3
          have q4 := hX.cell 4
          have q5 := hX.cell 5
          have q6 := hX.cell 6
          have q7 := hX.cell 7
          have q8 := hX.cell 8
          have q9 := hX.cell 9
          simp only [List.getElem?_cons_zero, List.getElem?_cons_succ] at q0 q1 q2 q3 q4 q5 q6 q7 q8 q9
          have z0 := hX.frozen 0
          have z1 := hX.frozen 1
          have z2 := hX.frozen 2
          have z3 := hX.frozen 3
          have z4 := hX.frozen 4
          have z5 := hX.frozen 5
          have z6 := hX.frozen 6
          have z7 := hX.frozen 7
          have z8 := hX.frozen 8
          have z9 := hX.frozen 9
          have hneX : w4.heap.size ≠ w4.heap.size + 1 := by omega
          have hgp : w4.heap.size ≤ w4.heap.size + 1 := by omega
          have HXX := Lib.hid hX
          have HOX : Hid (OwnX wr w4.heap.size ⟨a1, a2 - 1, a3 - 1, a4, a6, a7, a8, a5, a9 != 0, XA, Xn, Xc, l⟩) := Lib.hid ⟨hown, hoe, ⟨by show _ ≤ a1; omega, by show a1 ≤ _; omega⟩, ⟨by show _ ≤ a2 - 1; omega, by show a2 - 1 ≤ _; omega⟩, ⟨by show _ ≤ a3 - 1; omega, by show a3 - 1 ≤ _; omega⟩, ⟨by show _ ≤ a4; omega, by show a4 ≤ _; omega⟩, ⟨by show _ ≤ a6; omega, by show a6 ≤ _; omega⟩, ⟨by show _ ≤ a7; omega, by show a7 ≤ _; omega⟩, ⟨by show _ ≤ a8; omega, by show a8 ≤ _; omega⟩, ⟨by show _ ≤ a5; omega, by show a5 ≤ _; omega⟩⟩
          have HHX := Lib.hid hx
          clear hX hN hown hoe hx
          go_upto_region 40 with fail
          have hX1 := HXX.out.set_ 0 (.int .i64 a1)
          have hX2 := hX1.set_ 1 (.int .i64 (a2 - 1))
          have hX3 := hX2.set_ 2 (.int .i64 (a3 - 1))
          have hX4 := hX3.set_ 3 (.int .i64 a4)
          have hX5 := hX4.set_ 7 (.int .i64 a5)
          have hX6 := hX5.set_ 4 (.int .i64 a6)
          have hX7 := hX6.set_ 5 (.int .i64 a7)
          have hX8 := hX7.set_ 6 (.int .i64 a8)
          have hX9 := hX8.set_ 8 (.bool (a9 != 0))
          have ho1 := HOX.out.far (i := 0) HXX.out (.int .i64 a1)
          have ho2 := ho1.far (i := 1) hX1 (.int .i64 (a2 - 1))
          have ho3 := ho2.far (i := 2) hX2 (.int .i64 (a3 - 1))
          have ho4 := ho3.far (i := 3) hX3 (.int .i64 a4)
          have ho5 := ho4.far (i := 7) hX4 (.int .i64 a5)
          have ho6 := ho5.far (i := 4) hX5 (.int .i64 a6)
          have ho7 := ho6.far (i := 5) hX6 (.int .i64 a7)
          have ho8 := ho7.far (i := 6) hX7 (.int .i64 a8)
          have hox := ho8.far (i := 8) hX8 (.bool (a9 != 0))
          have hx := (((((((((HHX.out.setCell (p := ⟨w4.heap.size + 1, 0, none⟩) hgp (.int .i64 a1)).setCell (p := ⟨w4.heap.size + 1, 1, none⟩) hgp (.int .i64 (a2 - 1))).setCell (p := ⟨w4.heap.size + 1, 2, none⟩) hgp (.int .i64 (a3 - 1))).setCell (p := ⟨w4.heap.size + 1, 3, none⟩) hgp (.int .i64 a4)).setCell (p := ⟨w4.heap.size + 1, 7, none⟩) hgp (.int .i64 a5)).setCell (p := ⟨w4.heap.size + 1, 4, none⟩) hgp (.int .i64 a6)).setCell (p := ⟨w4.heap.size + 1, 5, none⟩) hgp (.int .i64 a7)).setCell (p := ⟨w4.heap.size + 1, 6, none⟩) hgp (.int .i64 a8)).setCell (p := ⟨w4.heap.size + 1, 8, none⟩) hgp (.bool (a9 != 0)))
          clear ho1 ho2 ho3 ho4 ho5 ho6 ho7 ho8 hX1 hX2 hX3 hX4 hX5 hX6 hX7 hX8 HOX HHX HXX n0 n1 n2 n3 n4 n5 n6 n7 n8 n9 q0 q1 q2 q3 q4 q5 q6 q7 q8 q9 z0 z1 z2 z3 z4 z5 z6 z7 z8 z9
          simp only [List.set_cons_zero, List.set_cons_succ] at hX9
          generalize World.setCell _ ⟨w4.heap.size + 1, 8, none⟩ (.bool (a9 != 0)) = Wf at hX9 hox hx ⊢
          have hG := HGG4.out.ext hx
          have xw5 := xw.trans hx
          have hfQ := HFQ.out.ext hx
          clear HGG4 HFQ
          replace hox := hox.to (B' := w.heap.size) (by omega)
          obtain ⟨x, hxe⟩ : ∃ x : LV, x = ⟨a1, a2 - 1, a3 - 1, a4, a6, a7, a8, a5, a9 != 0, XA, Xn, Xc, l⟩ := ⟨_, rfl⟩
          have hrc : x.rc = rcM (readM P) := by rw [HRMP.out, hxe]; rfl
          have hX : Blk Wf (w4.heap.size + 1) 26 [.int .i64 x.kind, .int .i64 x.src, .int .i64 x.dst, .int .i64 x.term, .int .i64 x.a, .int .i64 x.b, .int .i64 x.c, .int .i64 x.bin, .bool x.ok, .slice x.A x.n x.cp] := by rw [hxe]; exact hX9
          have hxn : x.n ≤ 16384 := by rw [hxe]; show Xn ≤ 16384; omega
          rw [← hxe] at hox
          clear hX9 hxe v1 v2 v3 v4 v5 v6 v7 v8 v9 hnj
          have HRC := Lib.hid hrc
          have HPUT := Lib.hid (ref16_Put x AQ Q.length cQ Q Wf hox.ok (by omega) (hfQ.fs rfl) (by omega))
          have HLI := Lib.hid (fun (b : List UInt8) (h : lput x Q = (b, 0)) => lput_is h hox.ok.es.len (fun y hy => (hox.ok.es.ok y hy).bs.len) HBM.out)
          have HBK : Hid (∀ y R, IsLet b y R → lput x Q = (b, 0)) := Lib.hid (fun y R h => by
            obtain ⟨_, _, k3, k4⟩ := HA.out y R h
            have e1 := k3 P HPS.out
            exact h.back (by rw [HRC.out, s_readM e1, let_readM h.may h.bx]) hox.ok.es.len (fun z hz => (hox.ok.es.ok z hz).bs.len) (k4 Q HQS.out))
          generalize lput x Q = pp at *
          obtain ⟨p, ep⟩ := pp
          unfold LV.val at HPUT
          dsimp only at HPUT
          clear hrc HRC
          have q0 := hX.cell 0
          have q1 := hX.cell 1
          have q2 := hX.cell 2
          have q3 := hX.cell 3
          have q4 := hX.cell 4
          have q5 := hX.cell 5
          have q6 := hX.cell 6
          have q7 := hX.cell 7
          have q8 := hX.cell 8
          have q9 := hX.cell 9
          simp only [List.getElem?_cons_zero, List.getElem?_cons_succ] at q0 q1 q2 q3 q4 q5 q6 q7 q8 q9
          go_wp2_with fail
          refine HPUT.out.mono ?_
          rintro e w7 ⟨v7, rfl, hown7, x7⟩
          obtain ⟨A7, c7, rfl, _⟩ := own_form hown7
          replace hG := hG.ext x7
          have hX7 := hX.ext x7
          have hox7 := hox.ext x7
          have hf7 := hfQ.ext x7
          have xw7 := xw5.trans x7
          have hb7 := HBB.out.ext xw7
          have hp7 : Bs w7 A7 p.length p := Bs.of_own hown7
          clear HPUT q0 q1 q2 q3 q4 q5 q6 q7 q8 q9 hX x7 hox hfQ xw5 hown7 hx
          by_cases hep : ep = 0
          · subst hep
            have hs1 := str_at hp7 c7
            have hs2 := str_at hb7 c
            by_cases hpb : p = b
            · subst hpb
              have HIL := Lib.hid (HLI.out p rfl)
              have hseq := bstr_eq (rfl : p = p)
              have HOX := Lib.hid hox7
              have HF7 := Lib.hid hf7
              clear hp7 hb7 HBK HLI hox7 hf7
              have q0 := hX7.cell 0
              have q1 := hX7.cell 1
              have q2 := hX7.cell 2
              have q3 := hX7.cell 3
              have q4 := hX7.cell 4
              have q5 := hX7.cell 5
              have q6 := hX7.cell 6
              have q7 := hX7.cell 7
              have q8 := hX7.cell 8
              have q9 := hX7.cell 9
              simp only [List.getElem?_cons_zero, List.getElem?_cons_succ] at q0 q1 q2 q3 q4 q5 q6 q7 q8 q9
              have g0 := hG.cell 0
              have g1 := hG.cell 1
              have g2 := hG.cell 2
              have g3 := hG.cell 3
              have g4 := hG.cell 4
              have g5 := hG.cell 5
              have g6 := hG.cell 6
              have g7 := hG.cell 7
              have g8 := hG.cell 8
              have g9 := hG.cell 9
              simp only [List.getElem?_cons_zero, List.getElem?_cons_succ] at g0 g1 g2 g3 g4 g5 g6 g7 g8 g9
              have z0 := hG.frozen 0
              have z1 := hG.frozen 1
              have z2 := hG.frozen 2
              have z3 := hG.frozen 3
              have z4 := hG.frozen 4
              have z5 := hG.frozen 5
              have z6 := hG.frozen 6
              have z7 := hG.frozen 7
              have z8 := hG.frozen 8
              have z9 := hG.frozen 9
              have HGG := Lib.hid hG
              clear hG hX7
              go_wp2_with fail
              refine bodyPost_ret (v := .tuple #[x.val, .slice AQ Q.length cQ, .int .i64 0]) (by simp [results, Try.results22, go_sem, LV.val, g0, g1, g2, g3, g4, g5, g6, g7, g8, g9]) rfl ?_
              refine (HE.out _ _).2 ⟨x, AQ, Q.length, cQ, Q, 0, rfl, HOX.out.st10 HGG.out (.int .i64 x.kind) (.int .i64 x.src) (.int .i64 x.dst) (.int .i64 x.term) (.int .i64 x.a) (.int .i64 x.b) (.int .i64 x.c) (.int .i64 x.bin) (.bool x.ok) (.slice x.A x.n x.cp), ?_, hcQ, hcQm, by omega, .inl ⟨rfl, HIL.out⟩, xw7.st10 (Nat.le_refl _) (.int .i64 x.kind) (.int .i64 x.src) (.int .i64 x.dst) (.int .i64 x.term) (.int .i64 x.a) (.int .i64 x.b) (.int .i64 x.c) (.int .i64 x.bin) (.bool x.ok) (.slice x.A x.n x.cp)⟩
              exact (HF7.out.st10 (by omega) (.int .i64 x.kind) (.int .i64 x.src) (.int .i64 x.dst) (.int .i64 x.term) (.int .i64 x.a) (.int .i64 x.b) (.int .i64 x.c) (.int .i64 x.bin) (.bool x.ok) (.slice x.A x.n x.cp)).fs rfl
            · have hsne := bstr_ne hpb
              have HNO : Hid (∀ y R, ¬ IsLet b y R) := Lib.hid (fun y R h => by have := HBK.out y R h; injection this with this _; exact hpb this)
              have HTR : Hid (6 = takeCode b) := Lib.hid (by rw [HTC.out, if_neg (by simp), if_neg (by rw [HCC.out]; simp), ← s_readE HPS.out, HRE0.out, if_neg (by simp)])
              clear hp7 hb7 HBK HLI hpb hX7 hox7 hf7
              have g0 := hG.cell 0
              have g1 := hG.cell 1
              have g2 := hG.cell 2
              have g3 := hG.cell 3
              have g4 := hG.cell 4
              have g5 := hG.cell 5
              have g6 := hG.cell 6
              have g7 := hG.cell 7
              have g8 := hG.cell 8
              have g9 := hG.cell 9
              simp only [List.getElem?_cons_zero, List.getElem?_cons_succ] at g0 g1 g2 g3 g4 g5 g6 g7 g8 g9
              have z0 := hG.frozen 0
              have z1 := hG.frozen 1
              have z2 := hG.frozen 2
              have z3 := hG.frozen 3
              have z4 := hG.frozen 4
              have z5 := hG.frozen 5
              have z6 := hG.frozen 6
              have z7 := hG.frozen 7
              have z8 := hG.frozen 8
              have z9 := hG.frozen 9
              have HGG := Lib.hid hG
              clear hG
              go_wp2_with fail
              refine bodyPost_ret (v := .tuple #[.agg #[.int .i64 0, .int .i64 0, .int .i64 0, .int .i64 0, .int .i64 0, .int .i64 0, .int .i64 0, .int .i64 0, .bool false, .slice none 0 0], .slice none 0 0, .int .i64 6]) (by simp [results, Try.results22, go_sem, g0, g1, g2, g3, g4, g5, g6, g7, g8, g9]) rfl ?_
              exact (HE.out _ _).2 ⟨zeroX, none, 0, 0, [], 6, rfl, OwnX.zero _ _, Fs.nil_ _ _, Nat.le_refl _, by unfold maxLen; omega, Nat.zero_le _, .inr ⟨by omega, rfl, rfl, HTR.out, HNO.out⟩, xw7.st10 (Nat.le_refl _) (.int .i64 0) (.int .i64 0) (.int .i64 0) (.int .i64 0) (.int .i64 0) (.int .i64 0) (.int .i64 0) (.int .i64 0) (.bool false) (.slice none 0 0)⟩
          · have HNO : Hid (∀ y R, ¬ IsLet b y R) := Lib.hid (fun y R h => by have := HBK.out y R h; injection this with _ this; exact hep this)
            have hep' := bne_t (show ((ep : Nat) : Int) ≠ 0 by omega)
            have HTR : Hid (6 = takeCode b) := Lib.hid (by rw [HTC.out, if_neg (by simp), if_neg (by rw [HCC.out]; simp), ← s_readE HPS.out, HRE0.out, if_neg (by simp)])
            clear hp7 hb7 HBK HLI hep hX7 hox7 hf7
            have g0 := hG.cell 0
            have g1 := hG.cell 1
            have g2 := hG.cell 2
            have g3 := hG.cell 3
            have g4 := hG.cell 4
            have g5 := hG.cell 5
            have g6 := hG.cell 6
            have g7 := hG.cell 7
            have g8 := hG.cell 8
            have g9 := hG.cell 9
            simp only [List.getElem?_cons_zero, List.getElem?_cons_succ] at g0 g1 g2 g3 g4 g5 g6 g7 g8 g9
            have z0 := hG.frozen 0
            have z1 := hG.frozen 1
            have z2 := hG.frozen 2
            have z3 := hG.frozen 3
            have z4 := hG.frozen 4
            have z5 := hG.frozen 5
            have z6 := hG.frozen 6
            have z7 := hG.frozen 7
            have z8 := hG.frozen 8
            have z9 := hG.frozen 9
            have HGG := Lib.hid hG
            clear hG
            go_wp2_with fail
            refine bodyPost_ret (v := .tuple #[.agg #[.int .i64 0, .int .i64 0, .int .i64 0, .int .i64 0, .int .i64 0, .int .i64 0, .int .i64 0, .int .i64 0, .bool false, .slice none 0 0], .slice none 0 0, .int .i64 6]) (by simp [results, Try.results22, go_sem, g0, g1, g2, g3, g4, g5, g6, g7, g8, g9]) rfl ?_
            exact (HE.out _ _).2 ⟨zeroX, none, 0, 0, [], 6, rfl, OwnX.zero _ _, Fs.nil_ _ _, Nat.le_refl _, by unfold maxLen; omega, Nat.zero_le _, .inr ⟨by omega, rfl, rfl, HTR.out, HNO.out⟩, xw7.st10 (Nat.le_refl _) (.int .i64 0) (.int .i64 0) (.int .i64 0) (.int .i64 0) (.int .i64 0) (.int .i64 0) (.int .i64 0) (.int .i64 0) (.bool false) (.slice none 0 0)⟩

    · have hcd' := bne_t (show ((code : Nat) : Int) ≠ 0 by omega)
      have HC0 := Lib.hid hcd
      have HNO : Hid (∀ y R, ¬ IsLet b y R) := Lib.hid (fun y R h => by
        obtain ⟨_, k2, _, _⟩ := HA.out y R h
        rw [HCC.out] at k2
        exact hcd k2)
      have HTR : Hid (code = takeCode b) := Lib.hid (by rw [HTC.out, if_neg (by simp), HCC.out, if_pos hcd])
      clear hcd
      have g0 := hG.cell 0
      have g1 := hG.cell 1
      have g2 := hG.cell 2
      have g3 := hG.cell 3
      have g4 := hG.cell 4
      have g5 := hG.cell 5
      have g6 := hG.cell 6
      have g7 := hG.cell 7
      have g8 := hG.cell 8
      have g9 := hG.cell 9
      simp only [List.getElem?_cons_zero, List.getElem?_cons_succ] at g0 g1 g2 g3 g4 g5 g6 g7 g8 g9
      have z0 := hG.frozen 0
      have z1 := hG.frozen 1
      have z2 := hG.frozen 2
      have z3 := hG.frozen 3
      have z4 := hG.frozen 4
      have z5 := hG.frozen 5
      have z6 := hG.frozen 6
      have z7 := hG.frozen 7
      have z8 := hG.frozen 8
      have z9 := hG.frozen 9
      have HGG := Lib.hid hG
      clear hG
      go_wp2_with fail
      refine bodyPost_ret (v := .tuple #[.agg #[.int .i64 0, .int .i64 0, .int .i64 0, .int .i64 0, .int .i64 0, .int .i64 0, .int .i64 0, .int .i64 0, .bool false, .slice none 0 0], .slice none 0 0, .int .i64 code]) (by simp [results, Try.results22, go_sem, g0, g1, g2, g3, g4, g5, g6, g7, g8, g9]) rfl ?_
      exact (HE.out _ _).2 ⟨zeroX, none, 0, 0, [], code, rfl, OwnX.zero _ _, Fs.nil_ _ _, Nat.le_refl _, by unfold maxLen; omega, Nat.zero_le _, .inr ⟨HC0.out, rfl, rfl, HTR.out, HNO.out⟩, xw.st10 (Nat.le_refl _) (.int .i64 0) (.int .i64 0) (.int .i64 0) (.int .i64 0) (.int .i64 0) (.int .i64 0) (.int .i64 0) (.int .i64 0) (.bool false) (.slice none 0 0)⟩

  · have her' := bne_t (show ((er : Nat) : Int) ≠ 0 by omega)
    have HC0 := Lib.hid her
    have HNO : Hid (∀ y R, ¬ IsLet b y R) := Lib.hid (fun y R h => by
      obtain ⟨k1, _, _, _⟩ := HA.out y R h
      exact her k1)
    have HTR : Hid (er = takeCode b) := Lib.hid (by rw [HTC.out, if_pos her])
    clear her hs hR
    have g0 := hG.cell 0
    have g1 := hG.cell 1
    have g2 := hG.cell 2
    have g3 := hG.cell 3
    have g4 := hG.cell 4
    have g5 := hG.cell 5
    have g6 := hG.cell 6
    have g7 := hG.cell 7
    have g8 := hG.cell 8
    have g9 := hG.cell 9
    simp only [List.getElem?_cons_zero, List.getElem?_cons_succ] at g0 g1 g2 g3 g4 g5 g6 g7 g8 g9
    have z0 := hG.frozen 0
    have z1 := hG.frozen 1
    have z2 := hG.frozen 2
    have z3 := hG.frozen 3
    have z4 := hG.frozen 4
    have z5 := hG.frozen 5
    have z6 := hG.frozen 6
    have z7 := hG.frozen 7
    have z8 := hG.frozen 8
    have z9 := hG.frozen 9
    have HGG := Lib.hid hG
    clear hG
    go_wp2_with fail
    refine bodyPost_ret (v := .tuple #[.agg #[.int .i64 0, .int .i64 0, .int .i64 0, .int .i64 0, .int .i64 0, .int .i64 0, .int .i64 0, .int .i64 0, .bool false, .slice none 0 0], .slice none 0 0, .int .i64 er]) (by simp [results, Try.results22, go_sem, g0, g1, g2, g3, g4, g5, g6, g7, g8, g9]) rfl ?_
    exact (HE.out _ _).2 ⟨zeroX, none, 0, 0, [], er, rfl, OwnX.zero _ _, Fs.nil_ _ _, Nat.le_refl _, by unfold maxLen; omega, Nat.zero_le _, .inr ⟨HC0.out, rfl, rfl, HTR.out, HNO.out⟩, xw.st10 (Nat.le_refl _) (.int .i64 0) (.int .i64 0) (.int .i64 0) (.int .i64 0) (.int .i64 0) (.int .i64 0) (.int .i64 0) (.int .i64 0) (.bool false) (.slice none 0 0)⟩

end Go.Proofs.Ytcoaofaofmbfbaa
