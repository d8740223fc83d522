/- The walk of state.May. -/
import Derived.Test.YtiildgoaiookhaaStM
namespace Go.Proofs.Ytiildgoaiookhaa
open Go.RowKit

def tagLim (ver : Int) : Int := if ver < 3 then 0 else 16
/-- may the snapshots of a catalogue be -/
def snsB (ver next : Int) (l : List NV) : Bool := decide (l.length ≤ 16) && (risB NV.id (next - 1) 0 l && l.all (snB ver (tagLim ver)))

set_option maxRecDepth 100000 in
set_option maxHeartbeats 1600000 in
theorem st_snaps (s : KV) (ver : Int) (b : Bool) (hb : snsB ver s.next s.sns = b) (w : World) (hs : s.Ok w) (hn : s.n3 ≤ 1000000) (hl : ∀ f ∈ s.sns, f.len ≤ 1000000) (h1 : 1 ≤ s.next) (h2 : s.next ≤ 1048576) :
    Calls Try.prog 51 #[s.val, .int .i64 ver] w fun e w' => e = .returned (.bool b) ∧ Ext w w' := by
  have ht := hs.t3
  obtain ⟨ver_, next, keep, quota, A1, n1, c1, ses, A2, n2, c2, ops, A3, n3, c3, sns⟩ := s
  unfold KV.val
  unfold snsB at hb
  dsimp only at hb hn ht hl h1 h2 ⊢
  have hlen := ht.len
  have hB0 := (Blk.new w 26 [.int .i64 ver_, .int .i64 next, .int .i64 keep, .int .i64 quota, .slice A1 n1 c1, .slice A2 n2 c2, .slice A3 n3 c3]).alloc (.cells #[.int .i64 ver] 3)
  have hV0 := Blk.new (w.alloc (.cells #[.int .i64 ver_, .int .i64 next, .int .i64 keep, .int .i64 quota, .slice A1 n1 c1, .slice A2 n2 c2, .slice A3 n3 c3] 26)) 3 [.int .i64 ver]
  rw [show (w.alloc (.cells #[.int .i64 ver_, .int .i64 next, .int .i64 keep, .int .i64 quota, .slice A1 n1 c1, .slice A2 n2 c2, .slice A3 n3 c3] 26)).heap.size = w.heap.size + 1 by simp] at hV0
  have xa : Ext w ((w.alloc (.cells #[.int .i64 ver_, .int .i64 next, .int .i64 keep, .int .i64 quota, .slice A1 n1 c1, .slice A2 n2 c2, .slice A3 n3 c3] 26)).alloc (.cells #[.int .i64 ver] 3)) := ((Ext.refl w).alloc _).alloc _
  have HR := Lib.hid (st_risingSnap A3 n3 c3 sns (next - 1) _ (ht.ext xa) hn (by omega))
  have hwr : IntKind.i64.wrap (next - 1) = next - 1 := IntWalk.i64_in _ (by omega)
  have Hl := Lib.hid hl
  clear hs hl
  by_cases h16 : 16 < n3
  · rw [dec_f (show ¬ sns.length ≤ 16 by omega), Bool.false_and] at hb
    subst hb
    have hI : (16 : Int) < n3 := by omega
    clear HR
    go_enter Try.func51, Try.ntmps51
    go_wp2
    go_ret
    exact ⟨rfl, xa⟩
  · rw [dec_t (show sns.length ≤ 16 by omega), Bool.true_and] at hb
    have hI : decide ((16 : Int) < n3) = false := dec_f (by omega)
    rcases hr : risB NV.id (next - 1) 0 sns with _ | _
    · rw [hr, Bool.false_and] at hb
      subst hb
      rw [hr] at HR
      clear hr
      go_enter Try.func51, Try.ntmps51
      go_wp2_with fail
      refine HR.out.mono ?_
      rintro e w1 ⟨rfl, y1⟩
      go_wp2
      go_ret
      exact ⟨rfl, xa.trans y1⟩
    · rw [hr, Bool.true_and] at hb
      rw [hr] at HR
      clear hr
      by_cases hv : ver < 3
      · have hlim : tagLim ver = 0 := by unfold tagLim; rw [if_pos hv]
        rw [hlim] at hb
        have Hb := Lib.hid hb
        clear hb hlim
        go_enter Try.func51, Try.ntmps51
        go_wp2_with fail
        refine HR.out.mono ?_
        rintro e w1 ⟨rfl, y1⟩
        have hB1 := hB0.ext y1
        have hV1 := hV0.ext y1
        have d6 := hB1.cell 6
        have v0 := hV1.cell 0
        simp only [List.getElem?_cons_zero, List.getElem?_cons_succ] at d6 v0
        have xb := xa.trans y1
        have hlt1 := hV1.lt
        have hlt0 := hB1.lt
        have hL : Blk (w1.alloc (.cells #[.int .i64 0] 3)) w1.heap.size 3 [.int .i64 0] := Blk.new w1 3 [.int .i64 0]
        have hq := hL.cell 0
        simp only [List.getElem?_cons_zero] at hq
        have HA := Lib.hid (st_allSnap A3 n3 c3 sns ver 0 (w.heap.size + 1) w1.heap.size _ (ht.ext (xb.alloc (.cells #[.int .i64 0] 3))) hn Hl.out (((Ext.refl w1).alloc (.cells #[.int .i64 0] 3)).cell v0) hq)
        clear hB0 hV0 hB1 hV1 hL hq HR
        go_wp2_with fail
        refine HA.out.mono ?_
        rintro e w2 ⟨rfl, y2⟩
        go_wp2
        go_ret
        exact ⟨by rw [Hb.out] <;> rfl, (xb.alloc _).trans y2⟩
      · have hlim : tagLim ver = 16 := by unfold tagLim; rw [if_neg hv]
        rw [hlim] at hb
        have Hb := Lib.hid hb
        have hv' : decide (ver < 3) = false := dec_f hv
        clear hb hlim hv
        go_enter Try.func51, Try.ntmps51
        go_wp2_with fail
        refine HR.out.mono ?_
        rintro e w1 ⟨rfl, y1⟩
        have hB1 := hB0.ext y1
        have hV1 := hV0.ext y1
        have d6 := hB1.cell 6
        have v0 := hV1.cell 0
        simp only [List.getElem?_cons_zero, List.getElem?_cons_succ] at d6 v0
        have xb := xa.trans y1
        have hlt1 := hV1.lt
        have hlt0 := hB1.lt
        have hL : Blk (w1.alloc (.cells #[.int .i64 16] 3)) w1.heap.size 3 [.int .i64 16] := Blk.new w1 3 [.int .i64 16]
        have hq := hL.cell 0
        simp only [List.getElem?_cons_zero] at hq
        have HA := Lib.hid (st_allSnap A3 n3 c3 sns ver 16 (w.heap.size + 1) w1.heap.size _ (ht.ext (xb.alloc (.cells #[.int .i64 16] 3))) hn Hl.out (((Ext.refl w1).alloc (.cells #[.int .i64 16] 3)).cell v0) hq)
        clear hB0 hV0 hB1 hV1 hL hq HR
        go_wp2_with fail
        refine HA.out.mono ?_
        rintro e w2 ⟨rfl, y2⟩
        go_wp2
        go_ret
        exact ⟨by rw [Hb.out] <;> rfl, (xb.alloc _).trans y2⟩

def quotaLim (ver : Int) : Int := if ver < 3 then 0 else 64
def numB (s : KV) (ver : Int) : Bool := inI s.ver 1 3 && (inI s.next 1 1048576 && (inI s.keep 0 8 && inI s.quota 0 (quotaLim ver)))
def sesOk (l : List CV) : Bool := risB CV.client 8 0 l && l.all sesB
def opsOk (l : List OV) : Bool := risB OV.set 8 0 l && l.all opnB
def codeB (b : Bool) : Nat := if b then 0 else 6
/-- may a catalogue be at a version: an error's number -/
def kmay (s : KV) (ver : Int) : Nat := if inI ver 1 3 = false then 1 else codeB (((numB s ver && sesOk s.ses) && opsOk s.ops) && snsB ver s.next s.sns)

set_option maxRecDepth 100000 in
set_option maxHeartbeats 3200000 in
theorem st_May (s : KV) (ver : Int) (w : World) (hs : s.Ok w) (hn1 : s.n1 ≤ 1000000) (hn2 : s.n2 ≤ 1000000) (hn3 : s.n3 ≤ 1000000) (hl : ∀ f ∈ s.sns, f.len ≤ 1000000) :
    Calls Try.prog 17 #[s.val, .int .i64 ver] w fun e w' => e = .returned (.int .i64 (kmay s ver)) ∧ Ext w w' := by
  have ht1 := hs.t1
  have ht2 := hs.t2
  have HSn := Lib.hid (fun (w' : World) (h : Ext w w') h1 h2 => st_snaps s ver _ rfl w' (hs.ext h) hn3 hl h1 h2)
  clear hs
  unfold kmay numB
  obtain ⟨ver_, next, keep, quota, A1, n1, c1, ses, A2, n2, c2, ops, A3, n3, c3, sns⟩ := s
  unfold KV.val at HSn ⊢
  dsimp only at hn1 hn2 ht1 ht2 HSn ⊢
  have hB0 := Blk.new w 26 [.int .i64 ver_, .int .i64 next, .int .i64 keep, .int .i64 quota, .slice A1 n1 c1, .slice A2 n2 c2, .slice A3 n3 c3]
  have xa : Ext w (w.alloc (.cells #[.int .i64 ver_, .int .i64 next, .int .i64 keep, .int .i64 quota, .slice A1 n1 c1, .slice A2 n2 c2, .slice A3 n3 c3] 26)) := (Ext.refl w).alloc _
  have HW0 := Lib.hid (fun b hb w => st_within ver 1 3 b hb w)
  rcases hv : inI ver 1 3 with _ | _
  · have H := Lib.hid (HW0.out _ hv)
    simp only [if_true]
    clear HW0 hv HSn
    go_enter Try.func17, Try.ntmps17
    go_wp2_with (go_at_call 42; refine (H.out _).mono ?_; rintro e w1 ⟨rfl, rfl⟩)
    go_ret
    exact ⟨rfl, xa⟩
  · have H := Lib.hid (HW0.out _ hv)
    obtain ⟨v1, v3⟩ := inI_iff.1 hv
    rw [if_neg (show ¬ true = false by simp)]
    clear HW0 hv
    go_enter Try.func17, Try.ntmps17
    go_upto_if 13 with (go_at_call 42; refine (H.out _).mono ?_; rintro e w1 ⟨rfl, rfl⟩)
    generalize (w.alloc (.cells #[.int .i64 ver_, .int .i64 next, .int .i64 keep, .int .i64 quota, .slice A1 n1 c1, .slice A2 n2 c2, .slice A3 n3 c3] 26)) = W0 at *
    go_cut [5] (fun s5 wx => s5 = .int .i64 (quotaLim ver) ∧ W0 = wx)
    case first =>
      clear HSn
      by_cases h3 : ver < 3
      · go_wp2_with fail
        go_meet
        exact ⟨by unfold quotaLim; rw [if_pos h3], rfl⟩
      · have h3' : decide (ver < 3) = false := dec_f h3
        go_wp2_with fail
        go_meet
        exact ⟨by unfold quotaLim; rw [if_neg (by omega)], rfl⟩
    case rest =>
      obtain ⟨rfl, rfl⟩ := hcut
      have N1 := Lib.hid (fun b hb w => st_within ver_ 1 3 b hb w)
      have N2 := Lib.hid (fun b hb w => st_within next 1 1048576 b hb w)
      have N3 := Lib.hid (fun b hb w => st_within keep 0 8 b hb w)
      have N4 := Lib.hid (fun b hb w => st_within quota 0 (quotaLim ver) b hb w)
      have hnx : inI next 1 1048576 = true → 1 ≤ next ∧ next ≤ 1048576 := inI_iff.1
      have d0 := hB0.cell 0
      have d1 := hB0.cell 1
      have d2 := hB0.cell 2
      have d3 := hB0.cell 3
      simp only [List.getElem?_cons_zero, List.getElem?_cons_succ] at d0 d1 d2 d3
      have Hnx := Lib.hid hnx
      clear hnx H
      generalize e1 : inI ver_ 1 3 = b1 at *
      generalize e2 : inI next 1 1048576 = b2 at *
      generalize e3 : inI keep 0 8 = b3 at *
      generalize e4 : inI quota 0 (quotaLim ver) = b4 at *
      have EE : Hid ((inI ver_ 1 3 && (inI next 1 1048576 && (inI keep 0 8 && inI quota 0 (quotaLim ver)))) = (b1 && (b2 && (b3 && b4)))) := Lib.hid (by rw [e1, e2, e3, e4])
      clear e1 e2 e3 e4
      generalize quotaLim ver = ql at N4 ⊢
      go_upto_region 6 with fail
      go_cut [6] (fun s6 wx => s6 = .bool (b1 && (b2 && (b3 && b4))) ∧ W0 = wx)
      case first =>
        clear HSn Hnx
        rcases b1 with _ | _
        · have M1 := Lib.hid (N1.out _ rfl)
          clear N1 N2 N3 N4
          go_wp2_with (go_at_call 42; refine (M1.out _).mono ?_; rintro e w1 ⟨rfl, rfl⟩)
          go_meet
          exact ⟨rfl, rfl⟩
        · have M1 := Lib.hid (N1.out _ rfl)
          rcases b2 with _ | _
          · have M2 := Lib.hid (N2.out _ rfl)
            clear N1 N2 N3 N4
            go_wp2_with (first
              | (go_at_call 42; ((with_reducible refine (M1.out _).mono ?_); rintro e w1 ⟨rfl, rfl⟩))
              | (go_at_call 42; ((with_reducible refine (M2.out _).mono ?_); rintro e w1 ⟨rfl, rfl⟩)))
            go_meet
            exact ⟨rfl, rfl⟩
          · have M2 := Lib.hid (N2.out _ rfl)
            rcases b3 with _ | _
            · have M3 := Lib.hid (N3.out _ rfl)
              clear N1 N2 N3 N4
              go_wp2_with (first
                | (go_at_call 42; ((with_reducible refine (M1.out _).mono ?_); rintro e w1 ⟨rfl, rfl⟩))
                | (go_at_call 42; ((with_reducible refine (M2.out _).mono ?_); rintro e w1 ⟨rfl, rfl⟩))
                | (go_at_call 42; ((with_reducible refine (M3.out _).mono ?_); rintro e w1 ⟨rfl, rfl⟩)))
              go_meet
              exact ⟨rfl, rfl⟩
            · have M3 := Lib.hid (N3.out _ rfl)
              have M4 := Lib.hid (N4.out _ rfl)
              clear N1 N2 N3 N4
              go_wp2_with (first
                | (go_at_call 42; ((with_reducible refine (M1.out _).mono ?_); rintro e w1 ⟨rfl, rfl⟩))
                | (go_at_call 42; ((with_reducible refine (M2.out _).mono ?_); rintro e w1 ⟨rfl, rfl⟩))
                | (go_at_call 42; ((with_reducible refine (M3.out _).mono ?_); rintro e w1 ⟨rfl, rfl⟩))
                | (go_at_call 42; ((with_reducible refine (M4.out _).mono ?_); rintro e w1 ⟨rfl, rfl⟩)))
              go_meet
              exact ⟨rfl, rfl⟩
      case rest =>
        obtain ⟨rfl, rfl⟩ := hcut
        clear N1 N2 N3 N4 d0 d1 d2 d3
        have Hnx2 : Hid ((b1 && (b2 && (b3 && b4))) = true → 1 ≤ next ∧ next ≤ 1048576) := Lib.hid (fun h => by
          simp only [Bool.and_eq_true] at h
          exact Hnx.out h.2.1)
        clear Hnx
        generalize (b1 && (b2 && (b3 && b4))) = nb at *
        have d4 := hB0.cell 4
        simp only [List.getElem?_cons_zero, List.getElem?_cons_succ] at d4
        have R1 := Lib.hid (st_risingSess A1 n1 c1 ses 8 _ (ht1.ext xa) hn1 (by omega))
        have A1' := Lib.hid (fun (w' : World) (h : Ext W0 w') => st_allSess A1 n1 c1 ses w' ((ht1.ext xa).ext h) hn1)
        go_upto_region 7 with fail
        go_cut [7] (fun s7 wx => s7 = .bool (sesOk ses) ∧ Ext W0 wx)
        case first =>
          rcases hr : risB CV.client 8 0 ses with _ | _
          · rw [hr] at R1
            have Hr := Lib.hid hr
            clear hr A1'
            go_wp2_with fail
            refine R1.out.mono ?_
            rintro e w1 ⟨rfl, y1⟩
            go_wp2_with fail
            go_meet
            exact ⟨by unfold sesOk; rw [Hr.out] <;> rfl, y1⟩
          · rw [hr] at R1
            have Hr := Lib.hid hr
            clear hr
            go_wp2_with fail
            refine R1.out.mono ?_
            rintro e w1 ⟨rfl, y1⟩
            have d4' := y1.cell d4
            go_wp2_with fail
            refine (A1'.out _ y1).mono ?_
            rintro e w2 ⟨rfl, y2⟩
            have Hab : Hid (sesOk ses = ses.all sesB) := Lib.hid (by unfold sesOk; rw [Hr.out, Bool.true_and])
            generalize ses.all sesB = ab at *
            clear Hr
            go_wp2_with fail
            go_meet
            exact ⟨by rw [Hab.out], y1.trans y2⟩
        case rest =>
          obtain ⟨rfl, y1⟩ := hcut
          generalize es : sesOk ses = sb at *
          have ES := Lib.hid es
          clear es
          obtain ⟨W1, rfl⟩ : ∃ W1 : World, W1 = wc := ⟨_, rfl⟩
          have hB1 := hB0.ext y1
          have xb := xa.trans y1
          have d5 := hB1.cell 5
          simp only [List.getElem?_cons_zero, List.getElem?_cons_succ] at d5
          have R2 := Lib.hid (st_risingOpen A2 n2 c2 ops 8 _ (ht2.ext xb) hn2 (by omega))
          have A2' := Lib.hid (fun (w' : World) (h : Ext W1 w') => st_allOpen A2 n2 c2 ops w' ((ht2.ext xb).ext h) hn2)
          clear hB0 R1 A1' d4 ht1 ht2 xa y1
          go_upto_region 8 with fail
          go_cut [8] (fun s8 wx => s8 = .bool (opsOk ops) ∧ Ext W1 wx)
          case first =>
            rcases hr : risB OV.set 8 0 ops with _ | _
            · rw [hr] at R2
              have Hr := Lib.hid hr
              clear hr A2'
              go_wp2_with fail
              refine R2.out.mono ?_
              rintro e w1 ⟨rfl, y1⟩
              go_wp2_with fail
              go_meet
              exact ⟨by unfold opsOk; rw [Hr.out] <;> rfl, y1⟩
            · rw [hr] at R2
              have Hr := Lib.hid hr
              clear hr
              go_wp2_with fail
              refine R2.out.mono ?_
              rintro e w1 ⟨rfl, y1⟩
              have d5' := y1.cell d5
              go_wp2_with fail
              refine (A2'.out _ y1).mono ?_
              rintro e w2 ⟨rfl, y2⟩
              have Hab : Hid (opsOk ops = ops.all opnB) := Lib.hid (by unfold opsOk; rw [Hr.out, Bool.true_and])
              generalize ops.all opnB = ab at *
              clear Hr
              go_wp2_with fail
              go_meet
              exact ⟨by rw [Hab.out], y1.trans y2⟩
          case rest =>
            obtain ⟨rfl, y2⟩ := hcut
            generalize eo : opsOk ops = ob at *
            have EO := Lib.hid eo
            clear eo
            have hB2 := hB1.ext y2
            have xc := xb.trans y2
            have d0 := hB2.cell 0
            have d1 := hB2.cell 1
            have d2 := hB2.cell 2
            have d3 := hB2.cell 3
            have d4 := hB2.cell 4
            have d5' := hB2.cell 5
            have d6 := hB2.cell 6
            simp only [List.getElem?_cons_zero, List.getElem?_cons_succ] at d0 d1 d2 d3 d4 d5' d6
            clear hB1 hB2 R2 A2' d5 xb y2
            rcases nb with _ | _
            · clear HSn
              go_wp2
              go_ret
              exact ⟨by rw [EE.out] <;> rfl, xc⟩
            · obtain ⟨x1, x2⟩ := Hnx2.out rfl
              rcases sb with _ | _
              · clear HSn
                go_wp2
                go_ret
                exact ⟨by rw [EE.out, ES.out] <;> rfl, xc⟩
              · rcases ob with _ | _
                · clear HSn
                  go_wp2
                  go_ret
                  exact ⟨by rw [EE.out, ES.out, EO.out] <;> rfl, xc⟩
                · have HS2 := Lib.hid (HSn.out _ xc x1 x2)
                  generalize en : snsB ver next sns = nb at *
                  have EN := Lib.hid en
                  clear en
                  clear HSn Hnx2
                  go_wp2_with fail
                  refine HS2.out.mono ?_
                  rintro e w1 ⟨rfl, y3⟩
                  rcases nb with _ | _
                  · go_wp2
                    go_ret
                    exact ⟨by rw [EE.out, ES.out, EO.out, EN.out] <;> rfl, xc.trans y3⟩
                  · go_wp2
                    go_ret
                    exact ⟨by rw [EE.out, ES.out, EO.out, EN.out] <;> rfl, xc.trans y3⟩
end Go.Proofs.Ytiildgoaiookhaa
