/- Words and walks that the last text of this claim stands on: Im1. No condition. -/
import Derived.Test.YtiildgoaiookhaaGreatB22
import Derived.Test.YtiildgoaiookhaaGreatB17
import Derived.Laws.EntriesVeiled
/- The walk of the reader's field. (Printed by wip/tools/imfield.py.) -/
namespace Go.Proofs.YtiildgoaiookhaaGreat
open Go.RowKit

theorem ttrow_many {b : List UInt8} (h : (ttrow b).2 = 0) {ms : List FV} (hs : ms.map FV.s = (ttrow b).1.map FV.s) : ms.length ≤ 16384 ∧ ∀ f ∈ ms, f.len ≤ 16384 := by
  obtain ⟨k1, k2, k3⟩ := ttrow_sound h
  constructor
  · have h1 := rput_field_le _ (fmay_ok k3).1
    rw [k2] at h1
    have : ms.length = (ttrow b).1.length := by have := congrArg List.length hs; simpa using this
    omega
  · rw [← s_may hs] at k3
    exact fun f hf => ((fmay_ok k3).1 f hf).2
theorem padM_full (m : List (List FV)) : padM m.length m = m.map (List.map FV.s) := by
  unfold padM
  refine List.ext_getElem (by simp) fun i h1 h2 => ?_
  simp only [List.length_map, List.length_range] at h1
  simp [List.getElem?_eq_getElem h1]
theorem more_len (x : XV) : x.more.length = x.sns.length := by simp [XV.more]
theorem rk_eq {s : KV} {x : XV} (h : x.sns.length = s.sns.length) : s.rk x.more = ⟨s.ver, s.next, s.keep, s.quota, s.ses, s.ops, s.sns.map NV.q, x.more.map (List.map FV.s)⟩ := by
  unfold KV.rk
  rw [← h, ← more_len, padM_full]
theorem rk_ses {s : KV} {x : XV} (h : x.sns.length = s.sns.length) (A : Option Addr) (c : Nat) (f : CV) : (addSes s A c f).rk x.more = { s.rk x.more with ses := s.ses ++ [f] } := by
  rw [rk_eq h, rk_eq (s := addSes s A c f) h]; rfl
theorem rk_ops {s : KV} {x : XV} (h : x.sns.length = s.sns.length) (A : Option Addr) (c : Nat) (f : OV) : (addOps s A c f).rk x.more = { s.rk x.more with ops := s.ops ++ [f] } := by
  rw [rk_eq h, rk_eq (s := addOps s A c f) h]; rfl
theorem rk_sns {s : KV} {x : XV} (h : x.sns.length = s.sns.length) (A A' : Option Addr) (c c' : Nat) (f : NV) (y : WV) : (addSns s A c f).rk (addMore x A' c' y).more = { s.rk x.more with sns := s.sns.map NV.q ++ [f.q], more := x.more.map (List.map FV.s) ++ [y.l.map FV.s] } := by
  rw [rk_eq h, rk_eq (s := addSns s A c f) (x := addMore x A' c' y) (by unfold addSns addMore; simp [h])]
  unfold addSns addMore XV.more
  simp
theorem num_rk (ver : Int) (s : KV) (x : XV) (f : FV) (h4 : f.num ≠ 4) (h5 : f.num ≠ 5) (h6 : f.num ≠ 6) : (numK s f).rk x.more = kstep ver (s.rk x.more) f := by
  unfold numK kstep
  rw [if_neg h4, if_neg h5, if_neg h6]
  by_cases h1 : f.num = 1
  · rw [if_pos h1, if_pos h1]; rfl
  rw [if_neg h1, if_neg h1]
  by_cases h2 : f.num = 2
  · rw [if_pos h2, if_pos h2]; rfl
  rw [if_neg h2, if_neg h2]
  by_cases h3 : f.num = 3
  · rw [if_pos h3, if_pos h3]; rfl
  rw [if_neg h3, if_neg h3]
  by_cases h7 : f.num = 7
  · rw [if_pos h7, if_pos h7]; rfl
  rw [if_neg h7, if_neg h7]
theorem num_len (s : KV) (f : FV) : ((numK s f).n1 ≤ s.n1 + 1 ∧ (numK s f).n2 ≤ s.n2 + 1 ∧ (numK s f).n3 ≤ s.n3 + 1 ∧ ∀ {n : Nat}, n ≤ n + 1) ∧ ((∀ y ∈ s.sns, y.len ≤ 17000) → ∀ y ∈ (numK s f).sns, y.len ≤ 17000) := by
  unfold numK
  split
  · exact ⟨⟨Nat.le_succ _, Nat.le_succ _, Nat.le_succ _, Nat.le_succ _⟩, fun h => h⟩
  split
  · exact ⟨⟨Nat.le_succ _, Nat.le_succ _, Nat.le_succ _, Nat.le_succ _⟩, fun h => h⟩
  split
  · exact ⟨⟨Nat.le_succ _, Nat.le_succ _, Nat.le_succ _, Nat.le_succ _⟩, fun h => h⟩
  split
  · exact ⟨⟨Nat.le_succ _, Nat.le_succ _, Nat.le_succ _, Nat.le_succ _⟩, fun h => h⟩
  · exact ⟨⟨Nat.le_succ _, Nat.le_succ _, Nat.le_succ _, Nat.le_succ _⟩, fun h => h⟩
theorem unch_len (b : List UInt8) : (unch b).length ≤ 8 := by
  unfold unch
  split
  · rename_i hr
    unfold rowChB at hr
    simp only [Bool.and_eq_true, decide_eq_true_eq] at hr
    exact hr.1.2
  · simp
theorem snpStep_ch {X : NQ} {f : FV} (h : X.ch.length ≤ 8) : (snpStep X f).ch.length ≤ 8 := by
  unfold snpStep
  split
  · exact h
  split
  · exact h
  split
  · exact unch_len _
  split
  · exact h
  split
  · exact h
  · exact h
theorem snpOf_ch (l : List FV) : (snpOf l).ch.length ≤ 8 := by
  have e : ∀ (l : List FV) (X : NQ), X.ch.length ≤ 8 → (l.foldl snpStep X).ch.length ≤ 8 := by
    intro l
    induction l with
    | nil => intro X h; exact h
    | cons a r ih => intro X h; exact ih _ (snpStep_ch h)
  exact e l _ (Nat.zero_le _)
theorem snap_len {w : World} {B : Nat} {y : NV} {l : List FV} (h : OwnN w B y) (hq : y.nq = snpOf l) : y.len ≤ 17000 := by
  have h1 := h.own.1
  have h2 := snpOf_ch l
  rw [← hq] at h2
  simp only [List.length_map, Nat.mul_one] at h1
  have : y.nq.ch = y.ch := rfl
  rw [this] at h2
  omega
theorem snap_rk {ver : Int} {s : KV} {x : XV} {y : NV} {z : WV} {ms L : List FV} (h : x.sns.length = s.sns.length) (hq : y.nq = snpOf (ms.filter (loB (topN ver)))) (hz : z.l.map FV.s = (ms.filter fun f => !loB (topN ver) f).map FV.s) (hs : ms.map FV.s = L.map FV.s) :
    ({ s.rk x.more with sns := s.sns.map NV.q ++ [y.q], more := x.more.map (List.map FV.s) ++ [z.l.map FV.s] } : RK) = { s.rk x.more with sns := (s.rk x.more).sns ++ [(snpOf (L.filter (loB (topN ver)))).q], more := (s.rk x.more).more ++ [(L.filter fun f => !loB (topN ver) f).map FV.s] } := by
  obtain ⟨g1, g2⟩ := s_filter hs (topN ver)
  have e1 : y.q = (snpOf (L.filter (loB (topN ver)))).q := by
    rw [← NV.nq_q, hq, show snpOf (ms.filter (loB (topN ver))) = snpOf (L.filter (loB (topN ver))) from s_fold _ s_snp _ _ _ g1]
  rw [e1, hz, g2, rk_eq h]
/-- what field leaves -/
def FldPost (w0 : World) (g : Nat) (ver : Int) (s : KV) (x : XV) (f : FV) (w : World) (e : Ending) (w' : World) : Prop :=
  ∃ s' x', e = .returned (.int .i64 (recCode ver f)) ∧ RS w0 w' g ver s' x' ∧ TFr w w' ∧ (recCode ver f = 0 → s'.rk x'.more = kstep ver (s.rk x.more) f) ∧
    (s'.n1 ≤ s.n1 + 1 ∧ s'.n2 ≤ s.n2 + 1 ∧ s'.n3 ≤ s.n3 + 1 ∧ x'.n2 ≤ x.n2 + 1) ∧ (x'.top = x.top ∧ x'.n1 = x.n1) ∧ ((∀ y ∈ x.sns, y.len ≤ 17000) → ∀ y ∈ x'.sns, y.len ≤ 17000) ∧ ((∀ y ∈ s.sns, y.len ≤ 17000) → ∀ y ∈ s'.sns, y.len ≤ 17000)
set_option maxRecDepth 100000 in
set_option maxHeartbeats 6400000 in
theorem reader_field (w0 : World) (g : Nat) (ver : Int) (s : KV) (x : XV) (f : FV) (w : World) (h : RS w0 w g ver s x) (hf : f.Ok w) (hfl : f.len ≤ 16384) (hs1 : s.n1 ≤ 20000) (hs2 : s.n2 ≤ 20000) (hs3 : s.n3 ≤ 20000) (hx2 : x.n2 ≤ 20000) :
    Calls Tryz.prog 16 #[.pointer (some ⟨g, 0, none⟩), f.val] w (FldPost w0 g ver s x f w) := by
  have hB0 := Blk.new w 54 [.int .i64 f.num, .int .i64 f.wire, .int .u64 f.n, .slice f.A f.len f.cap]
  have xb : Ext w (w.alloc (.cells #[.int .i64 f.num, .int .i64 f.wire, .int .u64 f.n, .slice f.A f.len f.cap] 54)) := (Ext.refl w).alloc _
  have HE : Hid (∀ (W : World) (e : Ending), FldPost w0 g ver s x f w e W ↔ ∃ s' x', e = .returned (.int .i64 (recCode ver f)) ∧ RS w0 W g ver s' x' ∧ TFr w W ∧ (recCode ver f = 0 → s'.rk x'.more = kstep ver (s.rk x.more) f) ∧
    (s'.n1 ≤ s.n1 + 1 ∧ s'.n2 ≤ s.n2 + 1 ∧ s'.n3 ≤ s.n3 + 1 ∧ x'.n2 ≤ x.n2 + 1) ∧ (x'.top = x.top ∧ x'.n1 = x.n1) ∧ ((∀ y ∈ x.sns, y.len ≤ 17000) → ∀ y ∈ x'.sns, y.len ≤ 17000) ∧ ((∀ y ∈ s.sns, y.len ≤ 17000) → ∀ y ∈ s'.sns, y.len ≤ 17000)) := Lib.hid fun _ _ => Iff.rfl
  generalize FldPost w0 g ver s x f w = POST at *
  have HRS := Lib.hid h
  have HF := Lib.hid hf
  clear h hf
  unfold FV.val
  go_enter Tryz.func16, Tryz.ntmps16
  go_upto_region 1 with fail
  go_wp2_with fail
  have hL0 := Blk.new (w.alloc (.cells #[.int .i64 f.num, .int .i64 f.wire, .int .u64 f.n, .slice f.A f.len f.cap] 54)) 96 [.int .i64 4, .int .i64 4, .func (.func 44) #[.pointer (some ⟨g, 0, none⟩)] #[], .int .i64 5, .int .i64 3, .func (.func 45) #[.pointer (some ⟨g, 0, none⟩)] #[], .int .i64 6, .int .i64 2, .func (.func 46) #[.pointer (some ⟨g, 0, none⟩)] #[]]
  rw [show (w.alloc (.cells #[.int .i64 f.num, .int .i64 f.wire, .int .u64 f.n, .slice f.A f.len f.cap] 54)).heap.size = w.heap.size + 1 by simp] at hL0
  replace hB0 := hB0.alloc (.cells #[.int .i64 4, .int .i64 4, .func (.func 44) #[.pointer (some ⟨g, 0, none⟩)] #[], .int .i64 5, .int .i64 3, .func (.func 45) #[.pointer (some ⟨g, 0, none⟩)] #[], .int .i64 6, .int .i64 2, .func (.func 46) #[.pointer (some ⟨g, 0, none⟩)] #[]] 96)
  replace xb := xb.alloc (.cells #[.int .i64 4, .int .i64 4, .func (.func 44) #[.pointer (some ⟨g, 0, none⟩)] #[], .int .i64 5, .int .i64 3, .func (.func 45) #[.pointer (some ⟨g, 0, none⟩)] #[], .int .i64 6, .int .i64 2, .func (.func 46) #[.pointer (some ⟨g, 0, none⟩)] #[]] 96)
  generalize (w.alloc (.cells #[.int .i64 f.num, .int .i64 f.wire, .int .u64 f.n, .slice f.A f.len f.cap] 54)).alloc (.cells #[.int .i64 4, .int .i64 4, .func (.func 44) #[.pointer (some ⟨g, 0, none⟩)] #[], .int .i64 5, .int .i64 3, .func (.func 45) #[.pointer (some ⟨g, 0, none⟩)] #[], .int .i64 6, .int .i64 2, .func (.func 46) #[.pointer (some ⟨g, 0, none⟩)] #[]] 96) = W1 at *
  generalize w.heap.size + 1 = gl at hL0 ⊢
  generalize w.heap.size = gb at hB0 ⊢
  have HB := Lib.hid hB0
  have HL := Lib.hid hL0
  have HX := Lib.hid xb
  clear hB0 hL0 xb
  go_loopw [20] (fun i wr => ∃ j : Nat, i = .int .i64 j ∧ j ≤ 3 ∧ Hid (∀ k : Nat, k < j → f.num ≠ 4 + (k : Int)) ∧ Ext W1 wr) (fun i _ => 3 - (intOf i).toNat)
  case atStart => exact ⟨0, rfl, by omega, Lib.hid (fun k hk => by omega), Ext.refl W1⟩
  case round =>
    obtain ⟨j, rfl, hj, HJ, hx⟩ := hrel
    have hB := HB.out.ext hx
    have hL := HL.out.ext hx
    have b0 := hB.cell 0
    have b3 := hB.cell 3
    simp only [List.getElem?_cons_zero, List.getElem?_cons_succ] at b0 b3
    have HW := Lib.hid (HX.out.trans hx)
    have hlt := hx.size
    by_cases hj3 : j < 3
    · have hj' : j = 0 ∨ j = 1 ∨ j = 2 := by omega
      clear hj3 hj
      rcases hj' with rfl | rfl | rfl
      · have c0 := hL.cell 0
        have c1 := hL.cell 1
        have c2 := hL.cell 2
        simp only [List.getElem?_cons_zero, List.getElem?_cons_succ] at c0 c1 c2
        clear hB hL
        by_cases hnum : f.num = 4
        · have HRC : Hid (recCode ver f = if (ttrow f.b).2 ≠ 0 then (ttrow f.b).2 else checkN (specL 4 ver) (ttrow f.b).1) := Lib.hid (by unfold recCode rcode; rw [if_pos (show f.num = 4 by omega)])
          have HKS : Hid (∀ X : RK, kstep ver X f = { X with ses := X.ses ++ [sesOf (ttrow f.b).1] }) := Lib.hid (fun X => by unfold kstep; rw [if_pos (show f.num = 4 by omega)])
          have hne := bne_f (show (4 : Int) = f.num by omega)
          have HMANY := Lib.hid (fun h ms hs => ttrow_many (b := f.b) h (ms := ms) hs)
          have HTK := Lib.hid (fun (W : World) (h : Ext w W) => tlv_Take_any f.A f.len f.cap f.b W ((HF.out.ext h).bs) (by omega) HF.out.le)
          generalize ttrow f.b = tr at *
          obtain ⟨L, er⟩ := tr
          dsimp only at HRC HTK HMANY
          have HNUM := Lib.hid hnum
          clear hnum HJ
          go_upto_region 4 with fail
          have b0' := Ext.cell ((Ext.refl wr).alloc (.cells #[.int .i64 4, .int .i64 4, .func (.func 44) #[.pointer (some ⟨g, 0, none⟩)] #[]] 96)) b0
          have b3' := Ext.cell ((Ext.refl wr).alloc (.cells #[.int .i64 4, .int .i64 4, .func (.func 44) #[.pointer (some ⟨g, 0, none⟩)] #[]] 96)) b3
          have hR := Blk.new wr 96 [.int .i64 4, .int .i64 4, .func (.func 44) #[.pointer (some ⟨g, 0, none⟩)] #[]]
          have xR : Ext wr (wr.alloc (.cells #[.int .i64 4, .int .i64 4, .func (.func 44) #[.pointer (some ⟨g, 0, none⟩)] #[]] 96)) := (Ext.refl wr).alloc _
          have HW2 := Lib.hid (HW.out.trans xR)
          generalize wr.alloc (.cells #[.int .i64 4, .int .i64 4, .func (.func 44) #[.pointer (some ⟨g, 0, none⟩)] #[]] 96) = W2 at *
          generalize wr.heap.size = gr at hR ⊢
          have r0 := hR.cell 0
          simp only [List.getElem?_cons_zero] at r0
          clear c0 c1 c2 b0 b3 xR
          go_wp2_with fail
          refine (HTK.out _ HW2.out).mono ?_
          rintro e w3 ⟨A3, c3, ms, rfl, hms, hss, hc3, x3⟩
          have HW3 := Lib.hid (HW2.out.trans x3)
          have hR3 := hR.ext x3
          clear b0' b3' r0 hne HTK hR x3
          by_cases her : er = 0
          · subst her
            obtain ⟨hml, hmf⟩ := HMANY.out rfl ms hss
            have HRC2 : Hid (recCode ver f = checkN (specL 4 ver) ms) := Lib.hid (by rw [HRC.out, if_neg (by simp), s_check hss])
            have HCK := Lib.hid (fun (W : World) (h : Ext w3 W) => forms_Check 4 ver A3 ms.length c3 ms W (hms.ext h) (by omega))
            have HS3 := Lib.hid (HRS.out.to HW3.out)
            have HSS := Lib.hid hss
            have HMF := Lib.hid hmf
            have HMS := Lib.hid hms
            have r1 := hR3.cell 1
            have g0 := HS3.out.blk.cell 0
            simp only [List.getElem?_cons_zero, List.getElem?_cons_succ] at r1 g0
            have HR3 := Lib.hid hR3
            obtain ⟨code, hcode⟩ : ∃ k, k = checkN (specL 4 ver) ms := ⟨_, rfl⟩
            rw [← hcode] at HCK HRC2
            clear HRC HMANY hss hmf hms hcode hR3
            go_upto_region 7 with fail
            go_region_held3 (fun w' => w'.cell? ⟨gr, 1, none⟩ = some (.int .i64 4) ∧ w'.cell? ⟨g, 0, none⟩ = some (.int .i64 ver))
              (first | go_keep | (exact ⟨x4.cell r1, x4.cell g0⟩))
              (first | (go_at_call 13; refine (HCK.out _ (Ext.refl w3).drew).mono ?_; rintro e w4 ⟨rfl, x4'⟩; have x4 : Ext w3 w4 := ((Ext.refl w3).drew).trans x4'))
            clear r1 g0 HCK
            by_cases hcd : code = 0
            · subst hcd
              have HS4 := Lib.hid (HS3.out.to x4)
              have HT4 := Lib.hid (TFr.of_ext (HW3.out.trans x4))
              have HRD := Lib.hid (reader_sess w0 g ver s x A3 ms.length c3 ms w4 HS4.out (HMS.out.ext x4) (by omega) hs1)
              unfold SesPost at HRD
              have r2 := (HR3.out.ext x4).cell 2
              simp only [List.getElem?_cons_zero, List.getElem?_cons_succ] at r2
              clear x4 x4'
              go_wp2_with fail
              refine HRD.out.mono ?_
              rintro e w5 ⟨rfl, A5, c5, hS5, hT5⟩
              have HT5 := Lib.hid (HT4.out.trans hT5)
              have HS5 := Lib.hid hS5
              have HLN := Lib.hid HS4.out.len
              clear hT5 hS5 HRD r2
              go_wp2_with fail
              exact (HE.out _ _).2 ⟨_, _, by rw [HRC2.out]; rfl, HS5.out, HT5.out, fun _ => by rw [rk_ses HLN.out, HKS.out]; rw [show sesOf ms = sesOf L from s_fold _ s_ses _ _ _ HSS.out]; rfl, ⟨by first | omega | (unfold addSes; dsimp only; omega), by first | omega | (unfold addSes; dsimp only; omega), by first | omega | (unfold addSes; dsimp only; omega), by first | omega | (unfold addSes; dsimp only; omega)⟩, ⟨rfl, rfl⟩, fun h => h, fun h => h⟩
            · have hcb := beq_f (show ((code : Nat) : Int) ≠ 0 by omega)
              have HC0 := Lib.hid hcd
              have HS4 := Lib.hid (HS3.out.to x4)
              have HT4 := Lib.hid (TFr.of_ext (HW3.out.trans x4))
              clear hcd x4 x4'
              go_wp2_with fail
              exact (HE.out _ _).2 ⟨s, x, by rw [HRC2.out]; rfl, HS4.out, HT4.out, fun h => absurd (HRC2.out.symm.trans h) HC0.out, ⟨by omega, by omega, by omega, by omega⟩, ⟨rfl, rfl⟩, fun h => h, fun h => h⟩
          · have hcb := beq_f (show ((er : Nat) : Int) ≠ 0 by omega)
            have HRC2 : Hid (recCode ver f = er) := Lib.hid (by rw [HRC.out, if_pos her])
            have HC0 := Lib.hid her
            have HS3 := Lib.hid (HRS.out.to HW3.out)
            have HT3 := Lib.hid (TFr.of_ext HW3.out)
            clear her HRC HMANY hms hss hR3
            go_wp2_with fail
            exact (HE.out _ _).2 ⟨s, x, by rw [HRC2.out]; rfl, HS3.out, HT3.out, fun h => absurd (HRC2.out.symm.trans h) HC0.out, ⟨by omega, by omega, by omega, by omega⟩, ⟨rfl, rfl⟩, fun h => h, fun h => h⟩
        · have hne := bne_t (show (4 : Int) ≠ f.num by omega)
          have HNN := Lib.hid hnum
          have b0' := Ext.cell ((Ext.refl wr).alloc (.cells #[.int .i64 4, .int .i64 4, .func (.func 44) #[.pointer (some ⟨g, 0, none⟩)] #[]] 96)) b0
          clear hnum b3
          go_wp2_with fail
          go_roundw
          case rel => exact ⟨1, rfl, by omega, Lib.hid (fun k hk => by
            by_cases e : k = 0
            · subst e; simpa using HNN.out
            · exact HJ.out k (by omega)), hx.alloc _⟩
          case measure => simp [intOf]
      · have c0 := hL.cell 3
        have c1 := hL.cell 4
        have c2 := hL.cell 5
        simp only [List.getElem?_cons_zero, List.getElem?_cons_succ] at c0 c1 c2
        clear hB hL
        by_cases hnum : f.num = 5
        · have HRC : Hid (recCode ver f = if (ttrow f.b).2 ≠ 0 then (ttrow f.b).2 else checkN (specL 3 ver) (ttrow f.b).1) := Lib.hid (by unfold recCode rcode; rw [if_neg (show ¬ f.num = 4 by omega), if_pos (show f.num = 5 by omega)])
          have HKS : Hid (∀ X : RK, kstep ver X f = { X with ops := X.ops ++ [opnOf (ttrow f.b).1] }) := Lib.hid (fun X => by unfold kstep; rw [if_neg (show ¬ f.num = 4 by omega), if_pos (show f.num = 5 by omega)])
          have hne := bne_f (show (5 : Int) = f.num by omega)
          have HMANY := Lib.hid (fun h ms hs => ttrow_many (b := f.b) h (ms := ms) hs)
          have HTK := Lib.hid (fun (W : World) (h : Ext w W) => tlv_Take_any f.A f.len f.cap f.b W ((HF.out.ext h).bs) (by omega) HF.out.le)
          generalize ttrow f.b = tr at *
          obtain ⟨L, er⟩ := tr
          dsimp only at HRC HTK HMANY
          have HNUM := Lib.hid hnum
          clear hnum HJ
          go_upto_region 4 with fail
          have b0' := Ext.cell ((Ext.refl wr).alloc (.cells #[.int .i64 5, .int .i64 3, .func (.func 45) #[.pointer (some ⟨g, 0, none⟩)] #[]] 96)) b0
          have b3' := Ext.cell ((Ext.refl wr).alloc (.cells #[.int .i64 5, .int .i64 3, .func (.func 45) #[.pointer (some ⟨g, 0, none⟩)] #[]] 96)) b3
          have hR := Blk.new wr 96 [.int .i64 5, .int .i64 3, .func (.func 45) #[.pointer (some ⟨g, 0, none⟩)] #[]]
          have xR : Ext wr (wr.alloc (.cells #[.int .i64 5, .int .i64 3, .func (.func 45) #[.pointer (some ⟨g, 0, none⟩)] #[]] 96)) := (Ext.refl wr).alloc _
          have HW2 := Lib.hid (HW.out.trans xR)
          generalize wr.alloc (.cells #[.int .i64 5, .int .i64 3, .func (.func 45) #[.pointer (some ⟨g, 0, none⟩)] #[]] 96) = W2 at *
          generalize wr.heap.size = gr at hR ⊢
          have r0 := hR.cell 0
          simp only [List.getElem?_cons_zero] at r0
          clear c0 c1 c2 b0 b3 xR
          go_wp2_with fail
          refine (HTK.out _ HW2.out).mono ?_
          rintro e w3 ⟨A3, c3, ms, rfl, hms, hss, hc3, x3⟩
          have HW3 := Lib.hid (HW2.out.trans x3)
          have hR3 := hR.ext x3
          clear b0' b3' r0 hne HTK hR x3
          by_cases her : er = 0
          · subst her
            obtain ⟨hml, hmf⟩ := HMANY.out rfl ms hss
            have HRC2 : Hid (recCode ver f = checkN (specL 3 ver) ms) := Lib.hid (by rw [HRC.out, if_neg (by simp), s_check hss])
            have HCK := Lib.hid (fun (W : World) (h : Ext w3 W) => forms_Check 3 ver A3 ms.length c3 ms W (hms.ext h) (by omega))
            have HS3 := Lib.hid (HRS.out.to HW3.out)
            have HSS := Lib.hid hss
            have HMF := Lib.hid hmf
            have HMS := Lib.hid hms
            have r1 := hR3.cell 1
            have g0 := HS3.out.blk.cell 0
            simp only [List.getElem?_cons_zero, List.getElem?_cons_succ] at r1 g0
            have HR3 := Lib.hid hR3
            obtain ⟨code, hcode⟩ : ∃ k, k = checkN (specL 3 ver) ms := ⟨_, rfl⟩
            rw [← hcode] at HCK HRC2
            clear HRC HMANY hss hmf hms hcode hR3
            go_upto_region 7 with fail
            go_region_held3 (fun w' => w'.cell? ⟨gr, 1, none⟩ = some (.int .i64 3) ∧ w'.cell? ⟨g, 0, none⟩ = some (.int .i64 ver))
              (first | go_keep | (exact ⟨x4.cell r1, x4.cell g0⟩))
              (first | (go_at_call 13; refine (HCK.out _ (Ext.refl w3).drew).mono ?_; rintro e w4 ⟨rfl, x4'⟩; have x4 : Ext w3 w4 := ((Ext.refl w3).drew).trans x4'))
            clear r1 g0 HCK
            by_cases hcd : code = 0
            · subst hcd
              have HS4 := Lib.hid (HS3.out.to x4)
              have HT4 := Lib.hid (TFr.of_ext (HW3.out.trans x4))
              have HRD := Lib.hid (reader_open w0 g ver s x A3 ms.length c3 ms w4 HS4.out (HMS.out.ext x4) (by omega) hs2)
              unfold OpnPost at HRD
              have r2 := (HR3.out.ext x4).cell 2
              simp only [List.getElem?_cons_zero, List.getElem?_cons_succ] at r2
              clear x4 x4'
              go_wp2_with fail
              refine HRD.out.mono ?_
              rintro e w5 ⟨rfl, A5, c5, hS5, hT5⟩
              have HT5 := Lib.hid (HT4.out.trans hT5)
              have HS5 := Lib.hid hS5
              have HLN := Lib.hid HS4.out.len
              clear hT5 hS5 HRD r2
              go_wp2_with fail
              exact (HE.out _ _).2 ⟨_, _, by rw [HRC2.out]; rfl, HS5.out, HT5.out, fun _ => by rw [rk_ops HLN.out, HKS.out]; rw [show opnOf ms = opnOf L from s_fold _ s_opn _ _ _ HSS.out]; rfl, ⟨by first | omega | (unfold addOps; dsimp only; omega), by first | omega | (unfold addOps; dsimp only; omega), by first | omega | (unfold addOps; dsimp only; omega), by first | omega | (unfold addOps; dsimp only; omega)⟩, ⟨rfl, rfl⟩, fun h => h, fun h => h⟩
            · have hcb := beq_f (show ((code : Nat) : Int) ≠ 0 by omega)
              have HC0 := Lib.hid hcd
              have HS4 := Lib.hid (HS3.out.to x4)
              have HT4 := Lib.hid (TFr.of_ext (HW3.out.trans x4))
              clear hcd x4 x4'
              go_wp2_with fail
              exact (HE.out _ _).2 ⟨s, x, by rw [HRC2.out]; rfl, HS4.out, HT4.out, fun h => absurd (HRC2.out.symm.trans h) HC0.out, ⟨by omega, by omega, by omega, by omega⟩, ⟨rfl, rfl⟩, fun h => h, fun h => h⟩
          · have hcb := beq_f (show ((er : Nat) : Int) ≠ 0 by omega)
            have HRC2 : Hid (recCode ver f = er) := Lib.hid (by rw [HRC.out, if_pos her])
            have HC0 := Lib.hid her
            have HS3 := Lib.hid (HRS.out.to HW3.out)
            have HT3 := Lib.hid (TFr.of_ext HW3.out)
            clear her HRC HMANY hms hss hR3
            go_wp2_with fail
            exact (HE.out _ _).2 ⟨s, x, by rw [HRC2.out]; rfl, HS3.out, HT3.out, fun h => absurd (HRC2.out.symm.trans h) HC0.out, ⟨by omega, by omega, by omega, by omega⟩, ⟨rfl, rfl⟩, fun h => h, fun h => h⟩
        · have hne := bne_t (show (5 : Int) ≠ f.num by omega)
          have HNN := Lib.hid hnum
          have b0' := Ext.cell ((Ext.refl wr).alloc (.cells #[.int .i64 5, .int .i64 3, .func (.func 45) #[.pointer (some ⟨g, 0, none⟩)] #[]] 96)) b0
          clear hnum b3
          go_wp2_with fail
          go_roundw
          case rel => exact ⟨2, rfl, by omega, Lib.hid (fun k hk => by
            by_cases e : k = 1
            · subst e; simpa using HNN.out
            · exact HJ.out k (by omega)), hx.alloc _⟩
          case measure => simp [intOf]
      · have c0 := hL.cell 6
        have c1 := hL.cell 7
        have c2 := hL.cell 8
        simp only [List.getElem?_cons_zero, List.getElem?_cons_succ] at c0 c1 c2
        clear hB hL
        by_cases hnum : f.num = 6
        · have HRC : Hid (recCode ver f = if (ttrow f.b).2 ≠ 0 then (ttrow f.b).2 else checkN (specL 2 ver) (ttrow f.b).1) := Lib.hid (by unfold recCode rcode; rw [if_neg (show ¬ f.num = 4 by omega), if_neg (show ¬ f.num = 5 by omega), if_pos (show f.num = 6 by omega)])
          have HKS : Hid (∀ X : RK, kstep ver X f = { X with sns := X.sns ++ [(snpOf ((ttrow f.b).1.filter (loB (topN ver)))).q], more := X.more ++ [((ttrow f.b).1.filter fun f => !loB (topN ver) f).map FV.s] }) := Lib.hid (fun X => by unfold kstep; rw [if_neg (show ¬ f.num = 4 by omega), if_neg (show ¬ f.num = 5 by omega), if_pos (show f.num = 6 by omega)])
          have hne := bne_f (show (6 : Int) = f.num by omega)
          have HMANY := Lib.hid (fun h ms hs => ttrow_many (b := f.b) h (ms := ms) hs)
          have HTK := Lib.hid (fun (W : World) (h : Ext w W) => tlv_Take_any f.A f.len f.cap f.b W ((HF.out.ext h).bs) (by omega) HF.out.le)
          generalize ttrow f.b = tr at *
          obtain ⟨L, er⟩ := tr
          dsimp only at HRC HTK HMANY
          have HNUM := Lib.hid hnum
          clear hnum HJ
          go_upto_region 4 with fail
          have b0' := Ext.cell ((Ext.refl wr).alloc (.cells #[.int .i64 6, .int .i64 2, .func (.func 46) #[.pointer (some ⟨g, 0, none⟩)] #[]] 96)) b0
          have b3' := Ext.cell ((Ext.refl wr).alloc (.cells #[.int .i64 6, .int .i64 2, .func (.func 46) #[.pointer (some ⟨g, 0, none⟩)] #[]] 96)) b3
          have hR := Blk.new wr 96 [.int .i64 6, .int .i64 2, .func (.func 46) #[.pointer (some ⟨g, 0, none⟩)] #[]]
          have xR : Ext wr (wr.alloc (.cells #[.int .i64 6, .int .i64 2, .func (.func 46) #[.pointer (some ⟨g, 0, none⟩)] #[]] 96)) := (Ext.refl wr).alloc _
          have HW2 := Lib.hid (HW.out.trans xR)
          generalize wr.alloc (.cells #[.int .i64 6, .int .i64 2, .func (.func 46) #[.pointer (some ⟨g, 0, none⟩)] #[]] 96) = W2 at *
          generalize wr.heap.size = gr at hR ⊢
          have r0 := hR.cell 0
          simp only [List.getElem?_cons_zero] at r0
          clear c0 c1 c2 b0 b3 xR
          go_wp2_with fail
          refine (HTK.out _ HW2.out).mono ?_
          rintro e w3 ⟨A3, c3, ms, rfl, hms, hss, hc3, x3⟩
          have HW3 := Lib.hid (HW2.out.trans x3)
          have hR3 := hR.ext x3
          clear b0' b3' r0 hne HTK hR x3
          by_cases her : er = 0
          · subst her
            obtain ⟨hml, hmf⟩ := HMANY.out rfl ms hss
            have HRC2 : Hid (recCode ver f = checkN (specL 2 ver) ms) := Lib.hid (by rw [HRC.out, if_neg (by simp), s_check hss])
            have HCK := Lib.hid (fun (W : World) (h : Ext w3 W) => forms_Check 2 ver A3 ms.length c3 ms W (hms.ext h) (by omega))
            have HS3 := Lib.hid (HRS.out.to HW3.out)
            have HSS := Lib.hid hss
            have HMF := Lib.hid hmf
            have HMS := Lib.hid hms
            have r1 := hR3.cell 1
            have g0 := HS3.out.blk.cell 0
            simp only [List.getElem?_cons_zero, List.getElem?_cons_succ] at r1 g0
            have HR3 := Lib.hid hR3
            obtain ⟨code, hcode⟩ : ∃ k, k = checkN (specL 2 ver) ms := ⟨_, rfl⟩
            rw [← hcode] at HCK HRC2
            clear HRC HMANY hss hmf hms hcode hR3
            go_upto_region 7 with fail
            go_region_held3 (fun w' => w'.cell? ⟨gr, 1, none⟩ = some (.int .i64 2) ∧ w'.cell? ⟨g, 0, none⟩ = some (.int .i64 ver))
              (first | go_keep | (exact ⟨x4.cell r1, x4.cell g0⟩))
              (first | (go_at_call 13; refine (HCK.out _ (Ext.refl w3).drew).mono ?_; rintro e w4 ⟨rfl, x4'⟩; have x4 : Ext w3 w4 := ((Ext.refl w3).drew).trans x4'))
            clear r1 g0 HCK
            by_cases hcd : code = 0
            · subst hcd
              have HS4 := Lib.hid (HS3.out.to x4)
              have HT4 := Lib.hid (TFr.of_ext (HW3.out.trans x4))
              have HRD := Lib.hid (reader_snap w0 g ver s x A3 ms.length c3 ms w4 HS4.out (HMS.out.ext x4) (by omega) HMF.out hs3 hx2)
              unfold SnpPost at HRD
              have r2 := (HR3.out.ext x4).cell 2
              simp only [List.getElem?_cons_zero, List.getElem?_cons_succ] at r2
              clear x4 x4'
              go_wp2_with fail
              refine HRD.out.mono ?_
              rintro e w5 ⟨rfl, A5, c5, y5, A6, c6, z6, hS5, hq5, hz5, hn5, hT5⟩
              have HQ5 := Lib.hid (And.intro hq5 (And.intro hz5 hn5))
              have HYL : Hid (y5.len ≤ 17000) := Lib.hid (snap_len (hS5.ok.k3 y5 (by unfold addSns; simp)) hq5)
              clear hq5 hz5 hn5
              have HT5 := Lib.hid (HT4.out.trans hT5)
              have HS5 := Lib.hid hS5
              have HLN := Lib.hid HS4.out.len
              clear hT5 hS5 HRD r2
              go_wp2_with fail
              exact (HE.out _ _).2 ⟨_, _, by rw [HRC2.out]; rfl, HS5.out, HT5.out, fun _ => by rw [rk_sns HLN.out, HKS.out]; exact snap_rk HLN.out HQ5.out.1 HQ5.out.2.1 HSS.out, ⟨by first | omega | (unfold addSns; dsimp only; omega) | (unfold addMore; dsimp only; omega), by first | omega | (unfold addSns; dsimp only; omega) | (unfold addMore; dsimp only; omega), by first | omega | (unfold addSns; dsimp only; omega) | (unfold addMore; dsimp only; omega), by first | omega | (unfold addSns; dsimp only; omega) | (unfold addMore; dsimp only; omega)⟩, ⟨rfl, rfl⟩, fun h y hy => by rcases List.mem_append.1 hy with hy | hy; exact h y hy; simp only [List.mem_singleton] at hy; subst hy; exact HQ5.out.2.2, fun h y hy => by rcases List.mem_append.1 hy with hy | hy; exact h y hy; simp only [List.mem_singleton] at hy; subst hy; exact HYL.out⟩
            · have hcb := beq_f (show ((code : Nat) : Int) ≠ 0 by omega)
              have HC0 := Lib.hid hcd
              have HS4 := Lib.hid (HS3.out.to x4)
              have HT4 := Lib.hid (TFr.of_ext (HW3.out.trans x4))
              clear hcd x4 x4'
              go_wp2_with fail
              exact (HE.out _ _).2 ⟨s, x, by rw [HRC2.out]; rfl, HS4.out, HT4.out, fun h => absurd (HRC2.out.symm.trans h) HC0.out, ⟨by omega, by omega, by omega, by omega⟩, ⟨rfl, rfl⟩, fun h => h, fun h => h⟩
          · have hcb := beq_f (show ((er : Nat) : Int) ≠ 0 by omega)
            have HRC2 : Hid (recCode ver f = er) := Lib.hid (by rw [HRC.out, if_pos her])
            have HC0 := Lib.hid her
            have HS3 := Lib.hid (HRS.out.to HW3.out)
            have HT3 := Lib.hid (TFr.of_ext HW3.out)
            clear her HRC HMANY hms hss hR3
            go_wp2_with fail
            exact (HE.out _ _).2 ⟨s, x, by rw [HRC2.out]; rfl, HS3.out, HT3.out, fun h => absurd (HRC2.out.symm.trans h) HC0.out, ⟨by omega, by omega, by omega, by omega⟩, ⟨rfl, rfl⟩, fun h => h, fun h => h⟩
        · have hne := bne_t (show (6 : Int) ≠ f.num by omega)
          have HNN := Lib.hid hnum
          have b0' := Ext.cell ((Ext.refl wr).alloc (.cells #[.int .i64 6, .int .i64 2, .func (.func 46) #[.pointer (some ⟨g, 0, none⟩)] #[]] 96)) b0
          clear hnum b3
          go_wp2_with fail
          go_roundw
          case rel => exact ⟨3, rfl, by omega, Lib.hid (fun k hk => by
            by_cases e : k = 2
            · subst e; simpa using HNN.out
            · exact HJ.out k (by omega)), hx.alloc _⟩
          case measure => simp [intOf]
    · obtain rfl : j = 3 := by omega
      have hn4 := HJ.out 0 (by omega)
      have hn5 := HJ.out 1 (by omega)
      have hn6 := HJ.out 2 (by omega)
      have HSW := Lib.hid (HRS.out.to HW.out)
      have HNM := Lib.hid (reader_number w0 g ver s x f wr HSW.out)
      unfold NumPost FV.val at HNM
      have HRC : Hid (recCode ver f = 0) := Lib.hid (by unfold recCode; rw [if_neg (by omega), if_neg (by omega), if_neg (by omega)])
      have HKS : Hid ((numK s f).rk x.more = kstep ver (s.rk x.more) f) := Lib.hid (num_rk ver s x f (by omega) (by omega) (by omega))
      have b1 := hB.cell 1
      have b2 := hB.cell 2
      simp only [List.getElem?_cons_zero, List.getElem?_cons_succ] at b1 b2
      clear hn4 hn5 hn6 HJ hB hL
      go_wp2_with fail
      refine HNM.out.mono ?_
      rintro e w2 ⟨rfl, hS2, hT2⟩
      have HS2 := Lib.hid hS2
      have HT2 := Lib.hid ((TFr.of_ext HW.out).trans hT2)
      clear b0 b1 b2 b3 hS2 hT2 HNM
      go_wp2_with fail
      exact (HE.out _ _).2 ⟨_, x, by rw [HRC.out]; rfl, HS2.out, HT2.out, fun _ => HKS.out, ⟨(num_len s f).1.1, (num_len s f).1.2.1, (num_len s f).1.2.2.1, Nat.le_succ _⟩, ⟨rfl, rfl⟩, fun h => h, (num_len s f).2⟩
end Go.Proofs.YtiildgoaiookhaaGreat
