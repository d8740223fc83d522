/- Words and walks that the last text of this claim stands on: ChkA, LtP, ImB, ImC, FsE, LtE. No condition. -/
import Derived.Test.YtiildgoaiookhaaGreatB06
import Derived.Test.YtiildgoaiookhaaGreatB12
import Derived.Maps.Views
import Derived.BigGuardPart
import Derived.Test.YtiildgoaiookhaaGreatB15
import Derived.Test.YtiildgoaiookhaaGreatB14
/- The walk of forms.Check. -/
namespace Go.Proofs.YtiildgoaiookhaaGreat
open Go.RowKit Go.Maps

/-- Block b is a map of at most j numbers, that tells f of each. -/
def TM (w : World) (b j : Nat) (f : Int → Nat) : Prop :=
  ∃ D : DataW Unit, w.ownsMap Tryz.prog 3 (plainElem Tryz.prog 3) b j D ∧ ∀ k : Int, D.atKey (.int .i64 k) (.lit (.int .i64 0)) = .lit (.int .i64 (f k))
theorem TM.ext {w w' : World} {b j : Nat} {f : Int → Nat} (h : TM w b j f) (he : Ext w w') : TM w' b j f := by
  obtain ⟨D, h1, h2⟩ := h
  exact ⟨D, h1.kept (row := none) ⟨he.os, he.tape, he.output, he.size, fun k hk _ => he.block k hk⟩ (by simp), h2⟩
theorem TM.alloc_ {w : World} {b j : Nat} {f : Int → Nat} (h : TM w b j f) (o : Obj) : TM (w.alloc o) b j f := h.ext ((Ext.refl w).alloc o)
theorem TM.made (w : World) : TM (w.alloc (.map #[] 0)) w.heap.size 0 (fun _ => 0) :=
  ⟨.map [], World.ownsMap_made _ _ _ _, fun _ => rfl⟩
theorem TM.to {w : World} {b j j' : Nat} {f f' : Int → Nat} (h : TM w b j f) (hj : j ≤ j') (hf : f = f') : TM w b j' f' := by
  subst hf
  obtain ⟨D, h1, h2⟩ := h
  exact ⟨D, h1.mono hj, h2⟩
theorem i64_wf {k : Int} (h0 : 0 ≤ k) (h1 : k ≤ 1000000) : (Lit.int .i64 k).wf = true := by
  simp [Lit.wf, IntKind.min, IntKind.max, IntKind.signed, IntKind.bits]; omega
set_option maxRecDepth 100000 in
theorem TM.look {w : World} {b j : Nat} {f : Int → Nat} (h : TM w b j f) (k : Int) (h0 : 0 ≤ k) (h1 : k ≤ 1000000) :
    (Instr.lookup 90 (.map (some b)) (.int .i64 k) false).run Tryz.prog w = .ok (.int .i64 (f k)) w := by
  obtain ⟨D, g1, g2⟩ := h
  obtain ⟨c, hrun, hat, _⟩ := g1.lookup_int (int_keyed Tryz.underlying3) Tryz.underlying90 Tryz.underlying3 (by kernel_rfl) (keyOf_int_mk Tryz.underlying3 (i64_wf h0 h1))
  rw [g2 k] at hat
  injection hat with hat
  injection hat with _ hat
  rw [hrun, hat]
set_option maxRecDepth 100000 in
theorem wpList_times {w : World} {b j : Nat} {f : Int → Nat} (h : TM w b j f) (hj : j < 1000000) (k : Int) (h0 : 0 ≤ k) (h1 : k ≤ 1000000) (n : Nat) (hn : n ≤ 1000000)
    {ops : Array Oper} {rest : List Oper} {o : Oper} {a : Act} {Q : Exit → Act → World → Prop} (hg : o.guard = none) (m x v : Operand) (hop : o.op = Op.mapUpdate 90 m x v)
    (hm : a.eval m = .map (some b)) (hx : a.eval x = .int .i64 k) (c : Int) (hc : c = n) (hv : a.eval v = .int .i64 c)
    (hK : ∀ w', TM w' b (j + 1) (fun z => if z = k then n else f z) → w.grownBy w' (some b) → wpList Tryz.prog ops Q rest (a.put o.dst undef) w') : wpList Tryz.prog ops Q (o :: rest) a w := by
  subst hc
  obtain ⟨D, g1, g2⟩ := h
  refine wpList_mapUpdate_own w hg m x v _ hop _ _ (int_keyed Tryz.underlying3) Tryz.underlying90 _ b j D hm g1 (by unfold maxLen; omega) _ _ _ hx hv (keyOf_int_mk Tryz.underlying3 (i64_wf h0 h1)) _ [] (plainElem_int Tryz.underlying3 (i64_wf (by omega) (by omega))) ?_
  intro w' r1 r2
  refine hK w' ⟨_, r1, fun z => ?_⟩ r2
  obtain ⟨es, clock, _, _, _, hD⟩ := g1
  dsimp only
  by_cases e : z = k
  · subst e
    rw [if_pos rfl, atKey_put_same ⟨_, hD⟩ (by simp [WideAt.IsKeyLit])]
  · rw [if_neg e, atKey_put_other (by intro e2; injection e2 with _ e2; exact e e2)]
    exact g2 z

set_option maxRecDepth 100000 in
set_option maxHeartbeats 400000 in
theorem forms_is (f : FV) (s : SpV) (t : Nat) (w : World) : Calls Tryz.prog 42 #[f.val, .agg #[.int .i64 s.num, .int .i64 s.wire, .int .i64 s.since, .bool s.need, .bool s.many], .int .i64 t] w fun e w' => e = .returned (.bool (isB f s t)) ∧ Ext w w' := by
  obtain ⟨num, wire, n, A, len, cap, b⟩ := f
  obtain ⟨sn, sw, ss, need, many⟩ := s
  unfold FV.val isB fullB
  dsimp only
  by_cases h1 : wire = (sw : Int)
  · rw [decide_eq_true h1, Bool.true_and]
    have g1 := bne_f h1
    rcases many with _ | _
    · by_cases h2 : t ≤ 1
      · rw [decide_eq_true h2, Bool.true_or, Bool.true_and]
        have g2 : decide ((1 : Int) < (t : Int)) = false := dec_f (by omega)
        by_cases h3 : wire = 0
        · rw [if_pos h3]
          have g3 := beq_t h3
          have e1 : (decide (n ≠ 0)) = ((n : Int) != 0) := by by_cases e : n = 0 <;> simp [e]
          rw [e1]
          clear h1 h2 h3 e1
          go_enter Tryz.func42, Tryz.ntmps42
          go_wp2
          go_ret
          exact ⟨rfl, ((Ext.refl w).alloc _).alloc _⟩
        · rw [if_neg h3]
          have g3 := beq_f h3
          have e1 : (decide (0 < len)) = decide ((0 : Int) < (len : Int)) := by simp
          rw [e1]
          clear h1 h2 h3 e1
          go_enter Tryz.func42, Tryz.ntmps42
          go_wp2
          go_ret
          exact ⟨ret_bool (by simp), ((Ext.refl w).alloc _).alloc _⟩
      · rw [decide_eq_false h2, Bool.false_or, Bool.false_and]
        have g2 : decide ((1 : Int) < (t : Int)) = true := dec_t (by omega)
        clear h1 h2
        go_enter Tryz.func42, Tryz.ntmps42
        go_wp2
        go_ret
        exact ⟨rfl, ((Ext.refl w).alloc _).alloc _⟩
    · rw [Bool.or_true, Bool.true_and]
      have hcs : decide ((1 : Int) < (t : Int)) = false ∨ decide ((1 : Int) < (t : Int)) = true := by cases decide ((1 : Int) < (t : Int)) <;> simp
      by_cases h3 : wire = 0
      · rw [if_pos h3]
        have g3 := beq_t h3
        have e1 : (decide (n ≠ 0)) = ((n : Int) != 0) := by by_cases e : n = 0 <;> simp [e]
        rw [e1]
        clear h1 h3 e1
        rcases hcs with g2 | g2
        all_goals
          go_enter Tryz.func42, Tryz.ntmps42
          go_wp2
          go_ret
          exact ⟨rfl, ((Ext.refl w).alloc _).alloc _⟩
      · rw [if_neg h3]
        have g3 := beq_f h3
        have e1 : (decide (0 < len)) = decide ((0 : Int) < (len : Int)) := by simp
        rw [e1]
        clear h1 h3 e1
        rcases hcs with g2 | g2
        all_goals
          go_enter Tryz.func42, Tryz.ntmps42
          go_wp2
          go_ret
          exact ⟨ret_bool (by simp), ((Ext.refl w).alloc _).alloc _⟩
  · rw [decide_eq_false h1, Bool.false_and, Bool.false_and]
    have g1 := bne_t h1
    clear h1
    go_enter Tryz.func42, Tryz.ntmps42
    go_wp2
    go_ret
    exact ⟨rfl, ((Ext.refl w).alloc _).alloc _⟩

set_option maxRecDepth 100000 in
set_option maxHeartbeats 3200000 in
theorem forms_Check (kind v : Int) (A : Option Addr) (n c : Nat) (l : List FV) (w : World) (hf : Fs w A n l) (hn : n ≤ 20000) :
    Calls Tryz.prog 13 #[.int .i64 kind, .int .i64 v, .slice A n c] w fun e w' => e = .returned (.int .i64 (checkN (specL kind v) l)) ∧ Ext w w' := by
  have hlen := hf.len
  have HS := Lib.hid (fun w => forms_Specs kind v w)
  have HM := Lib.hid (fun (w' : World) (h : Ext w w') => tlv_May A n c l w' (hf.ext h) (by omega))
  have hN10 := specL_len kind v
  have hnum := specL_num kind v
  generalize specL kind v = S at *
  have HNum := Lib.hid hnum; clear hnum
  by_cases hS : S = []
  · rw [show checkN S l = 1 by simp [checkN, hS]]
    subst hS
    go_enter Tryz.func13, Tryz.ntmps13
    go_wp2_with fail
    refine (HS.out _).mono ?_
    rintro e w1 ⟨V, rfl, hown, x1⟩
    obtain ⟨B, cc, rfl, _⟩ := own_form hown
    clear hown
    go_wp2
    go_ret
    exact ⟨rfl, x1⟩
  by_cases hM : fmay l = 0
  rotate_left
  · rw [show checkN S l = fmay l by simp [checkN, hS, hM]]
    have hl0 : (S.length : Int) ≠ 0 := by
      have : S.length ≠ 0 := fun h => hS (List.eq_nil_of_length_eq_zero h)
      omega
    have g0 := beq_f hl0
    have g1 := bne_t (show ((fmay l : Nat) : Int) ≠ 0 by omega)
    clear hS hM hl0
    go_enter Tryz.func13, Tryz.ntmps13
    go_wp2_with fail
    refine (HS.out _).mono ?_
    rintro e w1 ⟨V, rfl, hown, x1⟩
    obtain ⟨B, cc, rfl, _⟩ := own_form hown
    clear hown
    go_wp2_with fail
    refine (HM.out _ x1).mono ?_
    rintro e w2 ⟨rfl, x2⟩
    go_wp2
    go_ret
    exact ⟨rfl, x1.trans x2⟩
  obtain ⟨hal, _⟩ := fmay_ok hM
  have HAL := Lib.hid hal; clear hal
  have hcn : checkN S l = if okB S l = true then 0 else 6 := by simp [checkN, hS, hM]
  have HCN := Lib.hid hcn; clear hcn
  rw [hM] at HM
  have hSl : S.length ≠ 0 := fun h => hS (List.eq_nil_of_length_eq_zero h)
  clear hS hM
  generalize hN : S.length = N at *
  have HN := Lib.hid hN; clear hN
  have g0 := beq_f (show (N : Int) ≠ 0 by omega)
  go_enter Tryz.func13, Tryz.ntmps13
  go_wp2_with fail
  refine (HS.out _).mono ?_
  rintro e w1 ⟨V, rfl, hown, x1⟩
  obtain ⟨B, cc, rfl, _⟩ := own_form hown
  have hSs := Ss.of_own hown
  clear hown
  go_wp2_with fail
  refine (HM.out _ x1).mono ?_
  rintro e w2 ⟨rfl, x2⟩
  have hSs2 := hSs.ext x2
  have hf2 := hf.ext (x1.trans x2)
  have hx2 := x1.trans x2
  clear HS HM hSs hf x1 x2
  have hmm := @run_makeMap Tryz.prog
  have hT0 := TM.made w2
  go_wp2
  clear hmm
  go_loopw [30] (fun i wr => ∃ j : Nat, i = .int .i64 j ∧ j ≤ n ∧ TM wr w2.heap.size j (fun k => cnt k (l.take j)) ∧ Ext w2 wr ∧ (∀ i (hi : i < l.length), i < j → ∀ q (hq : q < S.length), l[i].num = (S[q].num : Int) → isB l[i] S[q] (cnt l[i].num (l.take (i + 1))) = true)) (fun i _ => n - (intOf i).toNat)
  case atStart => exact ⟨0, rfl, by omega, hT0, (Ext.refl _).alloc _, fun i _ h => absurd h (by omega)⟩
  case round =>
    obtain ⟨j, rfl, hj, hT, hx, hgood⟩ := hrel
    obtain ⟨wo, rfl⟩ : ∃ wo : World, wo = wr := ⟨_, rfl⟩
    have HG := Lib.hid hgood; clear hgood hT0
    by_cases hjn : j < n
    · obtain ⟨b, off, rfl, d0, d1, d2, d3⟩ := (hf2.ext hx).at_ hjn
      have hal := HAL.out l[j] (List.getElem_mem _)
      have hnl : 1 ≤ l[j].num ∧ l[j].num ≤ 1000 := by
        obtain ⟨num, wire, h1, h2, h3⟩ := alone_tag hal.1
        have := h3.1; have := h3.2.1
        omega
      have hsn := fun k => cnt_snoc k l j (by omega)
      have hearly := fun q (hq : q < S.length) => ok_early (S := S) (l := l) (s := S[q]) (List.getElem_mem _) (j := j) (by omega)
      have hcl := cnt_le l[j].num (l.take j)
      rw [List.length_take] at hcl
      have hT1 := hT.ext ((Ext.refl wo).alloc (.cells #[.int .i64 l[j].num, .int .i64 l[j].wire, .int .u64 l[j].n, .slice l[j].A l[j].len l[j].cap] 54))
      have lk := hT1.look l[j].num (by omega) (by omega)
      obtain ⟨f, hfj⟩ : ∃ f, l[j]'(by omega) = f := ⟨_, rfl⟩
      simp only [hfj] at hsn hearly hcl hT1 lk hnl d0 d1 d2 d3 hal
      have Hfj := Lib.hid hfj
      clear hfj hal
      have Hsn := Lib.hid hsn; clear hsn
      have He := Lib.hid hearly; clear hearly
      obtain ⟨hn1, hn2⟩ := hnl
      go_wp2_with (refine wpList_times hT1 (by omega) f.num (by omega) (by omega) (cnt f.num (l.take j) + 1) (by omega) rfl _ _ _ rfl rfl rfl _ (by omega) rfl ?_; intro w3 hT3 hg3)
      have hTlt : w2.heap.size < wo.heap.size := by
        obtain ⟨D, g1, _⟩ := hT
        exact g1.lt
      have hx3 : Ext w2 w3 := Below.grown (hx.alloc (.cells #[.int .i64 f.num, .int .i64 f.wire, .int .u64 f.n, .slice f.A f.len f.cap] 54)) hg3 (by simp; omega) (fun k hk => by injection hk with hk; omega)
      have hBf : Blk w3 wo.heap.size 54 [.int .i64 f.num, .int .i64 f.wire, .int .u64 f.n, .slice f.A f.len f.cap] := (Blk.new wo _ [.int .i64 f.num, .int .i64 f.wire, .int .u64 f.n, .slice f.A f.len f.cap]).grown hg3 (by intro e; injection e with e; omega)
      have hT3' : TM w3 w2.heap.size (j + 1) (fun k => cnt k (l.take (j + 1))) := hT3.to (Nat.le_refl _) (by
        funext z
        rw [Hsn.out z]
        by_cases e : z = f.num
        · subst e; simp
        · rw [if_neg e, if_neg (fun h => e h.symm)]; rfl)
      have htl : cnt f.num (l.take (j + 1)) ≤ 20001 := by
        rw [Hsn.out]; split <;> omega
      generalize htv : cnt f.num (l.take (j + 1)) = t at *
      have Htv := Lib.hid htv; clear htv
      clear hT hT1 hT3 lk hg3 d0 d1 d2 d3 hx hcl
      go_loopw [41] (fun i wr => ∃ q : Nat, i = .int .i64 q ∧ q ≤ N ∧ Ext w3 wr ∧ (∀ q' (hq' : q' < S.length), q' < q → f.num = (S[q'].num : Int) → isB f S[q'] t = true)) (fun i _ => N - (intOf i).toNat)
      case atStart => exact ⟨0, rfl, by omega, Ext.refl _, fun q' _ h => absurd h (by omega)⟩
      case round =>
        obtain ⟨q, rfl, hq, hxi, hgi⟩ := hrel
        have HGI := Lib.hid hgi; clear hgi
        by_cases hqn : q < N
        · have hqS : q < S.length := by rw [HN.out]; exact hqn
          obtain ⟨sb, soff, rfl, e0, e1, e2, e3, e4⟩ := (hSs2.ext (hx3.trans hxi)).at_ hqn
          have hsn10 := HNum.out S[q] (List.getElem_mem _)
          have hea := He.out q (by rw [HN.out]; exact hqn)
          have HEA := Lib.hid hea; clear hea
          have hB3 := hBf.ext hxi
          have c0 := hB3.cell 0
          have c1 := hB3.cell 1
          have c2 := hB3.cell 2
          have c3 := hB3.cell 3
          simp only [List.getElem?_cons_zero, List.getElem?_cons_succ] at c0 c1 c2 c3
          have hlt3 := hB3.lt
          have HIS := Lib.hid (fun w' => forms_is f (S[q]'(by rw [HN.out]; exact hqn)) t w')
          have hlk := (((hT3'.ext hxi).alloc_ (.cells #[.int .i64 S[q].num, .int .i64 S[q].wire, .int .i64 S[q].since, .bool S[q].need, .bool S[q].many] 92)).look f.num (by omega) (by omega))
          rw [Htv.out] at hlk
          obtain ⟨s, hsq⟩ : ∃ s, S[q]'hqS = s := ⟨_, rfl⟩
          simp only [hsq] at hsn10 HEA HIS hlk e0 e1 e2 e3 e4
          have Hsq := Lib.hid hsq; clear hsq
          clear hB3
          by_cases hnm : f.num = (s.num : Int)
          · have g1 := beq_t hnm.symm
            have hea := HEA.out hnm
            have Hnm := Lib.hid hnm; clear hnm
            rcases hb : isB f s t with _ | _
            · rw [hb] at HIS
              have hfalse := hea hb
              have HF := Lib.hid hfalse; clear hfalse hea hb HEA
              go_wp2_with fail
              refine (HIS.out _).mono ?_
              rintro e w5 ⟨rfl, x5⟩
              go_wp2
              go_ret
              exact ⟨by rw [HCN.out, HF.out]; rfl, hx2.trans (hx3.trans ((hxi.alloc _).trans x5))⟩
            · rw [hb] at HIS
              have HBt := Lib.hid hb; clear hb hea HEA
              go_wp2_with fail
              refine (HIS.out _).mono ?_
              rintro e w5 ⟨rfl, x5⟩
              go_wp2
              go_roundw
              case rel => exact ⟨q + 1, val_int (by omega), by omega, (hxi.alloc _).trans x5, fun q' hq' hlt hn' => by
                rcases Nat.lt_succ_iff_lt_or_eq.1 hlt with h | rfl
                · exact HGI.out q' hq' h hn'
                · rw [Hsq.out]; exact HBt.out⟩
              case measure => simp [intOf]; omega
          · have g1 := beq_f (fun h => hnm h.symm)
            have Hnm := Lib.hid hnm; clear hnm hlk
            go_wp2
            go_roundw
            case rel => exact ⟨q + 1, val_int (by omega), by omega, hxi.alloc _, fun q' hq' hlt hn' => by
              rcases Nat.lt_succ_iff_lt_or_eq.1 hlt with h | rfl
              · exact HGI.out q' hq' h hn'
              · rw [Hsq.out] at hn'; exact absurd hn' Hnm.out⟩
            case measure => simp [intOf]; omega
        · obtain rfl : N = q := by omega
          go_wp2_with fail
          refine ⟨⟨j + 1, val_int (by omega), by omega, hT3'.ext hxi, hx3.trans hxi, fun i hi hlt q hq hn' => ?_⟩, by simp [intOf]; omega⟩
          rcases Nat.lt_succ_iff_lt_or_eq.1 hlt with h | rfl
          · exact HG.out i hi h q hq hn'
          · have hfj := Hfj.out
            rw [hfj] at hn' ⊢
            rw [Htv.out]
            exact HGI.out q hq (by rw [← HN.out]; exact hq) hn'
    · obtain rfl : n = j := by omega
      have hTn : TM wo w2.heap.size n (fun k => cnt k l) := hT.to (Nat.le_refl _) (by funext k; rw [List.take_of_length_le (by omega)])
      clear hT
      go_wp2
      go_loopw [64] (fun i wr => ∃ q : Nat, i = .int .i64 q ∧ q ≤ N ∧ Ext wo wr ∧ (∀ q' (hq' : q' < S.length), q' < q → S[q'].need = true → 0 < cnt S[q'].num l)) (fun i _ => N - (intOf i).toNat)
      case atStart => exact ⟨0, rfl, by omega, Ext.refl _, fun q' _ h => absurd h (by omega)⟩
      case round =>
        obtain ⟨q, rfl, hq, hxi, hgi⟩ := hrel
        have HGI := Lib.hid hgi; clear hgi
        by_cases hqn : q < N
        · have hqS : q < S.length := by rw [HN.out]; exact hqn
          obtain ⟨sb, soff, rfl, e0, e1, e2, e3, e4⟩ := (hSs2.ext (hx.trans hxi)).at_ hqn
          have hsn10 := HNum.out S[q] (List.getElem_mem _)
          have hnd := ok_need (S := S) (l := l) (s := S[q]'(by rw [HN.out]; exact hqn)) (List.getElem_mem _)
          have hlk := (((hTn.ext hxi).alloc_ (.cells #[.int .i64 S[q].num, .int .i64 S[q].wire, .int .i64 S[q].since, .bool S[q].need, .bool S[q].many] 92)).look S[q].num (by omega) (by omega))
          obtain ⟨s, hsq⟩ : ∃ s, S[q]'hqS = s := ⟨_, rfl⟩
          simp only [hsq] at hsn10 hnd hlk e0 e1 e2 e3 e4
          have Hsq := Lib.hid hsq; clear hsq
          obtain ⟨sn, sw, ss, need, many⟩ := s
          dsimp only at hsn10 hnd hlk e0 e1 e2 e3 e4
          have HND := Lib.hid hnd; clear hnd
          rcases need with _ | _
          · clear hlk
            go_wp2
            go_roundw
            case rel => exact ⟨q + 1, val_int (by omega), by omega, hxi.alloc _, fun q' hq' hlt hn' => by
              rcases Nat.lt_succ_iff_lt_or_eq.1 hlt with h | rfl
              · exact HGI.out q' hq' h hn'
              · rw [Hsq.out] at hn'; cases hn'⟩
            case measure => simp [intOf]; omega
          · by_cases hc : cnt (sn : Int) l = 0
            · have hf0 := HND.out rfl hc
              have HF := Lib.hid hf0; clear hf0
              rw [hc] at hlk
              clear hc
              go_wp2
              go_ret
              exact ⟨by rw [HCN.out, HF.out]; rfl, hx2.trans (hx.trans (hxi.alloc _))⟩
            · have g1 := beq_f (show ((cnt (sn : Int) l : Nat) : Int) ≠ 0 by omega)
              have Hc := Lib.hid hc; clear hc
              go_wp2
              go_roundw
              case rel => exact ⟨q + 1, val_int (by omega), by omega, hxi.alloc _, fun q' hq' hlt hn' => by
                rcases Nat.lt_succ_iff_lt_or_eq.1 hlt with h | rfl
                · exact HGI.out q' hq' h hn'
                · rw [Hsq.out]; have := Hc.out; dsimp only; omega⟩
              case measure => simp [intOf]; omega
        · obtain rfl : N = q := by omega
          go_wp2
          go_ret
          have hok : okB S l = true := ok_all (fun j hj q hq hn' => HG.out j hj (by omega) q hq hn') (fun q hq hn' => HGI.out q hq (by rw [← HN.out]; exact hq) hn')
          exact ⟨by rw [HCN.out, hok]; rfl, hx2.trans (hx.trans hxi)⟩
end Go.Proofs.YtiildgoaiookhaaGreat

/- What fields say of an entry, and of a letter: plain. -/
namespace Go.Proofs.YtiildgoaiookhaaGreat
open Go.RowKit

/-! what the checks say hangs on what the fields say -/
theorem s_all {l m : List FV} (h : l.map FV.s = m.map FV.s) (q : Int × Int × Nat × Nat × List UInt8 → Bool) : (l.all fun f => q f.s) = (m.all fun f => q f.s) := by
  have e : ∀ l : List FV, (l.all fun f => q f.s) = (l.map FV.s).all q := by intro l; rw [List.all_map]; rfl
  rw [e, e, h]
theorem s_cnt {l m : List FV} (h : l.map FV.s = m.map FV.s) (k : Int) : cnt k l = cnt k m := by
  have e : ∀ l : List FV, cnt k l = ((l.map FV.s).filter fun p => p.1 == k).length := by
    intro l; unfold cnt; rw [List.filter_map, List.length_map]; rfl
  rw [e, e, h]
theorem s_ok {S : List SpV} {l m : List FV} (h : l.map FV.s = m.map FV.s) : okB S l = okB S m := by
  unfold okB specB
  refine List.all_congr rfl (fun s => ?_)
  have e1 : oneB s l = oneB s m := by
    have := s_all h (fun p => !(p.1 == (s.num : Int)) || (decide (p.2.1 = (s.wire : Int)) && (if p.2.1 = 0 then decide (p.2.2.1 ≠ 0) else decide (0 < p.2.2.2.1))))
    exact this
  rw [e1, s_cnt h]
theorem s_check {S : List SpV} {l m : List FV} (h : l.map FV.s = m.map FV.s) : checkN S l = checkN S m := by
  unfold checkN
  rw [s_may h, s_ok h]
theorem s_filter {l m : List FV} (h : l.map FV.s = m.map FV.s) (k : Int) : (l.filter (loB k)).map FV.s = (m.filter (loB k)).map FV.s ∧ (l.filter fun f => !loB k f).map FV.s = (m.filter fun f => !loB k f).map FV.s := by
  have e1 : ∀ l : List FV, (l.filter (loB k)).map FV.s = (l.map FV.s).filter (fun p => decide (p.1 ≤ k)) := by intro l; rw [List.filter_map]; rfl
  have e2 : ∀ l : List FV, (l.filter fun f => !loB k f).map FV.s = (l.map FV.s).filter (fun p => !decide (p.1 ≤ k)) := by intro l; rw [List.filter_map]; rfl
  rw [e1, e1, e2, e2, h]; exact ⟨rfl, rfl⟩

/-! an entry -/
def entStep (p : Int × List UInt8) (f : FV) : Int × List UInt8 := if f.num = 1 then (IntKind.i64.wrap f.n, p.2) else if f.num = 2 then (p.1, f.b) else p
/-- what fields say of an entry -/
def entOf (l : List FV) : Int × List UInt8 := l.foldl entStep (0, [])
theorem entOf_snoc (l : List FV) (j : Nat) (h : j < l.length) : entOf (l.take (j + 1)) = entStep (entOf (l.take j)) l[j] := by
  unfold entOf
  rw [List.take_succ_eq_append_getElem h, List.foldl_append]; rfl
/-- why bytes are no entry -/
def entCode (b : List UInt8) : Nat := if (ttrow b).2 ≠ 0 then (ttrow b).2 else checkN (specL 7 1) (ttrow b).1
theorem s_entOf {l m : List FV} (h : l.map FV.s = m.map FV.s) : entOf l = entOf m := by
  have e : ∀ (l m : List FV) p, l.map FV.s = m.map FV.s → l.foldl entStep p = m.foldl entStep p := by
    intro l
    induction l with
    | nil => intro m p h; cases m with | nil => rfl | cons b r => simp at h
    | cons a l ih =>
      intro m p h
      cases m with
      | nil => simp at h
      | cons b r =>
        simp only [List.map_cons, List.cons.injEq] at h
        have hs := h.1
        simp only [FV.s, Prod.mk.injEq] at hs
        rw [List.foldl_cons, List.foldl_cons, show entStep p a = entStep p b by unfold entStep; rw [hs.1, hs.2.2.1, hs.2.2.2.2]]
        exact ih r _ h.2
  exact e l m _ h
/-- the bytes of an entry are taken as it -/
theorem ent_row {y : EV} (h : EntOk y) : (ttrow (rput (entF y))).2 = 0 ∧ (ttrow (rput (entF y))).1.map FV.s = (entF y).map FV.s := by
  have h1 := ent_may h
  have h2 := trow_put (entF y) none none 0 h1.1 (entF_k h) rfl
  unfold ttrow
  rw [if_neg (by omega)]
  exact h2
theorem ent_spec7 : specL 7 1 = [nN 1, bS 2 1] := by decide
theorem ent_check {y : EV} (h : EntOk y) : checkN (specL 7 1) (entF y) = 0 := by
  have ht := h.t1
  have e1 : entF y = [tfv 1 0 y.term.toNat []] ++ (if y.b = [] then [] else [tfv 2 2 0 y.b]) := by
    unfold entF; rw [numF_cons, if_neg (by omega)]; rfl
  unfold checkN
  rw [ent_spec7, if_neg (by simp), (ent_may h).1, if_neg (by simp), if_pos]
  have hn : y.term.toNat ≠ 0 := by omega
  by_cases hb : y.b = []
  · rw [e1, if_pos hb]
    simp [okB, specB, oneB, cnt, fullB, tfv, nN, bS, hn]
  · rw [e1, if_neg hb]
    have : 0 < y.b.length := List.length_pos_iff.2 hb
    simp [okB, specB, oneB, cnt, fullB, tfv, nN, bS, hn, this]
theorem ent_code {y : EV} (h : EntOk y) : entCode (rput (entF y)) = 0 := by
  obtain ⟨h1, h2⟩ := ent_row h
  unfold entCode
  rw [if_neg (by simp [h1]), s_check h2, ent_check h]
theorem wrap_nat {n : Int} (h0 : 0 ≤ n) (h : n ≤ 4611686018427387904) : IntKind.i64.wrap ((n.toNat : Nat) : Int) = n := by
  rw [Int.toNat_of_nonneg h0]
  exact IntWalk.i64_in _ ⟨by omega, by omega⟩
theorem ent_of {y : EV} (h : EntOk y) : entOf (ttrow (rput (entF y))).1 = y.p := by
  rw [s_entOf (ent_row h).2]
  have ht := h.t1
  have ht2 := h.t2
  have e1 : entF y = [tfv 1 0 y.term.toNat []] ++ (if y.b = [] then [] else [tfv 2 2 0 y.b]) := by
    unfold entF; rw [numF_cons, if_neg (by omega)]; rfl
  have hw := wrap_nat (n := y.term) (by omega) (by omega)
  rw [e1]
  by_cases hb : y.b = []
  · rw [if_pos hb]
    simp [entOf, entStep, tfv, EV.p, hb, hw, -Int.ofNat_toNat]
  · rw [if_neg hb]
    simp [entOf, entStep, tfv, EV.p, hw, -Int.ofNat_toNat]
/-! how often a number stands there -/
theorem cnt_append (k : Int) (l m : List FV) : cnt k (l ++ m) = cnt k l + cnt k m := by simp [cnt]
theorem cnt_numF (k : Nat) : ∀ (l : List Int) (i : Nat), cnt k (numF i l) ≤ 1 ∧ (k < i → cnt k (numF i l) = 0)
  | [], i => ⟨by simp [numF, cnt], fun _ => by simp [numF, cnt]⟩
  | n :: r, i => by
    obtain ⟨h1, h2⟩ := cnt_numF k r (i + 1)
    rw [numF_cons, cnt_append]
    by_cases hn : n = 0
    · rw [if_pos hn]
      have e : cnt (k : Int) [] = 0 := rfl
      rw [e]
      exact ⟨by omega, fun h => by rw [h2 (by omega)]⟩
    · rw [if_neg hn]
      have e : cnt (k : Int) [tfv i 0 n.toNat []] = if i = k then 1 else 0 := by
        by_cases hik : i = k
        · subst hik; simp [cnt, tfv]
        · rw [if_neg hik]; simp [cnt, tfv]; omega
      rw [e]
      by_cases hik : i = k
      · rw [if_pos hik, h2 (by omega)]; exact ⟨by omega, fun h => by omega⟩
      · rw [if_neg hik]; exact ⟨by omega, fun h => by rw [h2 (by omega)]⟩
theorem cnt_in (k : Nat) (l : List Int) (i : Nat) (h1 : i ≤ k) (h2 : k < i + l.length) (hn : l[k - i]'(by omega) ≠ 0) : 0 < cnt k (numF i l) := by
  induction l generalizing i with
  | nil => simp at h2; omega
  | cons a r ih =>
    rw [numF_cons, cnt_append]
    by_cases hik : k = i
    · subst hik
      simp only [Nat.sub_self, List.getElem_cons_zero] at hn
      rw [if_neg hn]
      have : cnt (k : Int) [tfv k 0 a.toNat []] = 1 := by simp [cnt, tfv]
      omega
    · have hidx : k - i = (k - (i + 1)) + 1 := by omega
      have := ih (i + 1) (by omega) (by simp at h2; omega) (by simpa [hidx] using hn)
      omega
end Go.Proofs.YtiildgoaiookhaaGreat

/- A catalogue that is laid down, and what its bytes say: plain. -/
namespace Go.Proofs.YtiildgoaiookhaaGreat
open Go.RowKit

/-! rows of records -/
theorem rec_chain (k : Nat) : ∀ (l : List (List FV)) (p : Option FV) (t : List FV), (∀ a, p = some a → a.num < k ∨ a.num = k ∧ a.wire = 2) → (∀ q : Option FV, (∀ a, q = some a → a.num < (k : Int) + 1) → okChain q t) → okChain p (recF k l ++ t)
  | [], p, t, hp, ht => ht p (fun a ha => by rcases hp a ha with h | h <;> omega)
  | r :: l, p, t, hp, ht => by
    refine ⟨?_, rec_chain k l _ t (fun a ha => by injection ha with ha; subst ha; exact .inr ⟨rfl, rfl⟩) ht⟩
    rcases p with _ | a
    · rfl
    · rcases hp a rfl with h | ⟨h, h2⟩
      · exact rises_lt (by simpa [tfv] using h)
      · show (!risesB a (tfv k 2 0 (rput r))) = false
        have hr : risesB a (tfv k 2 0 (rput r)) = ((2 : Int) == 2 && a.wire == 2) := by unfold risesB; exact if_pos h.symm
        rw [hr, h2]; rfl
theorem rec_sum (k : Nat) (h1 : 1 ≤ k) (h2 : k ≤ 1000) (b : Nat) (hb : b ≤ 16384) : ∀ (l : List (List FV)), (∀ r ∈ l, (rput r).length ≤ b) → fsum (recF k l) ≤ (12 + b) * l.length
  | [], _ => by simp [recF, fsum]
  | r :: l, h => by
    have ih := rec_sum k h1 h2 b hb l (fun c hc => h c (by simp [hc]))
    have hr := h r (by simp)
    have := size_b (k := k) (b := rput r) h1 h2 (by omega)
    have e : fsum (recF k (r :: l)) = fsize (tfv k 2 0 (rput r)) + fsum (recF k l) := by simp [recF, fsum]
    rw [e, List.length_cons, Nat.mul_succ]; omega
theorem snpF_nil (ver : Int) (x : NV) : snpF ver x [] = snpH ver x := by unfold snpF; rw [List.append_nil]
theorem snpsF_nil (ver : Int) (l : List NV) : snpsF ver l [] = l.map (snpH ver) := by
  unfold snpsF
  refine List.ext_getElem (by simp) fun i h1 h2 => ?_
  simp [snpF_nil]
/-- a catalogue without later fields may be a row -/
theorem st_row_nil {v : Int} {s : KV} (h : KMay v s) (ver : Int) : fmay (stF ver s [] []) = 0 := by
  have hq := h.quota
  have hs := numF_sum [s.ver, s.next, s.keep] 1 (by omega) (by simp) (st_nums h)
  have ha := numF_alone [s.ver, s.next, s.keep] 1 (by omega) (by simp)
  have s4 := rec_sum 4 (by omega) (by omega) 48 (by omega) (s.ses.map sesF) (by intro r hr; obtain ⟨x, hx, rfl⟩ := List.mem_map.1 hr; exact (ses_may h hx).2.1)
  have s5 := rec_sum 5 (by omega) (by omega) 24 (by omega) (s.ops.map opnF) (by intro r hr; obtain ⟨x, hx, rfl⟩ := List.mem_map.1 hr; exact (opn_may h hx).2.1)
  have s6 := rec_sum 6 (by omega) (by omega) 200 (by omega) (s.sns.map (snpH ver)) (by intro r hr; obtain ⟨x, hx, rfl⟩ := List.mem_map.1 hr; exact (snpH_may h ver hx).2)
  have z7 := size_n (k := 7) (n := s.quota.toNat) (by omega) (by omega) (by unfold U64; omega)
  have n1 := h.nses
  have n2 := h.nops
  have n3 := h.nsns
  rw [List.length_map] at s4 s5 s6
  simp only [List.length_cons, List.length_nil] at hs
  have e7 : fsum (if 3 ≤ ver ∧ s.quota ≠ 0 then [tfv 7 0 s.quota.toNat []] else []) ≤ 12 := by
    split
    · simpa [fsum] using z7
    · simp [fsum]
  have hrec : ∀ (k b : Nat) (l : List (List FV)), 1 ≤ k → k ≤ 1000 → b ≤ 16384 → (∀ r ∈ l, (rput r).length ≤ b) → ∀ f ∈ recF k l, aloneB f = true ∧ f.len ≤ 16384 := by
    intro k b l h1 h2 hb hl f hf
    obtain ⟨r, hr, rfl⟩ := recF_mem hf
    exact ⟨alone_b h1 h2, by have := hl r hr; simp only [tfv]; omega⟩
  unfold stF
  rw [snpsF_nil, List.append_nil]
  refine may_chain _ none 0 ?_ ?_ (by rw [fsum_append, fsum_append, fsum_append, fsum_append]; omega)
  · refine numF_chain _ 1 none _ (by simp) (fun q hq => ?_)
    refine rec_chain 4 _ q _ (fun a ha => .inl (by have := hq a ha; simp only [List.length_cons, List.length_nil] at this; omega)) (fun q hq => ?_)
    refine rec_chain 5 _ q _ (fun a ha => .inl (by have := hq a ha; omega)) (fun q hq => ?_)
    refine rec_chain 6 _ q _ (fun a ha => .inl (by have := hq a ha; omega)) (fun q hq => ?_)
    split
    · exact ⟨falls_lt (fun a ha => by have := hq a ha; simp only [tfv]; omega), trivial⟩
    · trivial
  · intro f hf
    rcases List.mem_append.1 hf with hf | hf
    · exact ha f hf
    rcases List.mem_append.1 hf with hf | hf
    · exact hrec 4 48 _ (by omega) (by omega) (by omega) (by intro r hr; obtain ⟨x, hx, rfl⟩ := List.mem_map.1 hr; exact (ses_may h hx).2.1) f hf
    rcases List.mem_append.1 hf with hf | hf
    · exact hrec 5 24 _ (by omega) (by omega) (by omega) (by intro r hr; obtain ⟨x, hx, rfl⟩ := List.mem_map.1 hr; exact (opn_may h hx).2.1) f hf
    rcases List.mem_append.1 hf with hf | hf
    · exact hrec 6 200 _ (by omega) (by omega) (by omega) (by intro r hr; obtain ⟨x, hx, rfl⟩ := List.mem_map.1 hr; exact (snpH_may h ver hx).2) f hf
    · split at hf
      · simp only [List.mem_singleton] at hf; subst hf
        exact ⟨alone_n (by omega) (by omega), by simp [tfv]⟩
      · simp at hf
theorem kput_nil {v : Int} {s : KV} (h : kmay s v = 0) : kput v s [] [] = (rput (stF v s [] []), 0) := by
  have hk := kmay_parts h
  have hf : firstE (snpsF v s.sns []) = 0 := by
    rw [snpsF_nil, firstE_zero]
    intro r hr
    obtain ⟨x, hx, rfl⟩ := List.mem_map.1 hr
    exact (snpH_may hk v hx).1
  unfold kput
  rw [if_neg (by simp [h]), if_neg (by simp [badRest, lowK]), if_neg (by simp [hf]), if_pos (st_row_nil hk v)]

/-! what bytes say -/
/-- a field's sight -/
abbrev FS := Int × Int × Nat × Nat × List UInt8
def NV.q (f : NV) : Int × Int × List Int × Bool × ByteArray := (f.id, f.set, f.ch, f.held, f.tag)
/-- what a catalogue with later fields says -/
structure RK where
  ver : Int
  next : Int
  keep : Int
  quota : Int
  ses : List CV
  ops : List OV
  sns : List (Int × Int × List Int × Bool × ByteArray)
  more : List (List FS)
/-- the lists of later fields, one for each snapshot -/
def padM (n : Nat) (more : List (List FV)) : List (List FS) := (List.range n).map fun i => (more[i]?.getD []).map FV.s
def KV.rk (s : KV) (more : List (List FV)) : RK := ⟨s.ver, s.next, s.keep, s.quota, s.ses, s.ops, s.sns.map NV.q, padM s.sns.length more⟩
theorem padM_get {n i : Nat} {more : List (List FV)} (h : i < n) : (padM n more)[i]? = some ((more[i]?.getD []).map FV.s) := by
  simp [padM, h]

structure IsKat (v : Int) (b : List UInt8) (s : KV) (more : List (List FV)) (top : List FV) : Prop where
  may : kmay s v = 0
  bad : badRest v s more top = false
  rows : firstE (snpsF v s.sns more) = 0
  row : fmay (stF v s more top) = 0
  put : rput (stF v s more top) = b
  kt : ∀ f ∈ top, U64 f.n ∧ f.len = f.b.length
  km : ∀ m ∈ more, ∀ f ∈ m, U64 f.n ∧ f.len = f.b.length
theorem kput_is {v : Int} {b : List UInt8} {s : KV} {more : List (List FV)} {top : List FV} (h : kput v s more top = (b, 0)) (kt : ∀ f ∈ top, U64 f.n ∧ f.len = f.b.length) (km : ∀ m ∈ more, ∀ f ∈ m, U64 f.n ∧ f.len = f.b.length) : IsKat v b s more top := by
  unfold kput at h
  by_cases h1 : kmay s v ≠ 0
  · rw [if_pos h1] at h; exact absurd (Prod.mk.inj h).2 h1
  · rw [if_neg h1] at h
    by_cases h2 : badRest v s more top = true
    · rw [if_pos h2] at h; cases h
    · rw [if_neg h2] at h
      by_cases h3 : firstE (snpsF v s.sns more) ≠ 0
      · rw [if_pos h3] at h; exact absurd (Prod.mk.inj h).2 h3
      · rw [if_neg h3] at h
        by_cases h4 : fmay (stF v s more top) = 0
        · rw [if_pos h4] at h
          exact ⟨by omega, by simpa using h2, by omega, h4, (Prod.mk.inj h).1, kt, km⟩
        · rw [if_neg h4] at h; exact absurd (Prod.mk.inj h).2 h4
theorem IsKat.kput {v : Int} {b : List UInt8} {s : KV} {more : List (List FV)} {top : List FV} (h : IsKat v b s more top) : kput v s more top = (b, 0) := by
  unfold Go.Proofs.YtiildgoaiookhaaGreat.kput
  rw [if_neg (by simp [h.may]), if_neg (by simp [h.bad]), if_neg (by simp [h.rows]), if_pos h.row, h.put]
theorem bad_parts {v : Int} {s : KV} {more : List (List FV)} {top : List FV} (h : badRest v s more top = false) : lowK (topS v) top = false ∧ more.length ≤ s.sns.length ∧ ∀ m ∈ more, lowK (topN v) m = false := by
  unfold badRest at h
  simp only [Bool.or_eq_false_iff, decide_eq_false_iff_not, List.any_eq_false] at h
  exact ⟨h.1.1, by omega, fun m hm => by simpa using h.2 m hm⟩
theorem bad_at {more : List (List FV)} {k : Nat} (h : ∀ m ∈ more, lowK k m = false) (i : Nat) : lowK k (more[i]?.getD []) = false := by
  by_cases hi : i < more.length
  · rw [List.getElem?_eq_getElem hi]; exact h _ (List.getElem_mem _)
  · rw [List.getElem?_eq_none (by omega)]; rfl
theorem km_at {more : List (List FV)} (h : ∀ m ∈ more, ∀ f ∈ m, U64 f.n ∧ f.len = f.b.length) (i : Nat) : ∀ f ∈ more[i]?.getD [], U64 f.n ∧ f.len = f.b.length := by
  by_cases hi : i < more.length
  · rw [List.getElem?_eq_getElem hi]; exact h _ (List.getElem_mem _)
  · rw [List.getElem?_eq_none (by omega)]; simp
theorem tfv_k (num wire n : Nat) (b : List UInt8) (hn : U64 n) : U64 (tfv num wire n b).n ∧ (tfv num wire n b).len = (tfv num wire n b).b.length := ⟨hn, rfl⟩
theorem recF_k (k : Nat) (l : List (List FV)) : ∀ f ∈ recF k l, U64 f.n ∧ f.len = f.b.length := by
  intro f hf
  obtain ⟨r, _, rfl⟩ := recF_mem hf
  exact tfv_k _ _ _ _ (by unfold U64; omega)
theorem snpH_k {v : Int} {s : KV} (h : KMay v s) (ver : Int) {x : NV} (hx : x ∈ s.sns) : ∀ f ∈ snpH ver x, U64 f.n ∧ f.len = f.b.length := by
  intro f hf
  unfold snpH at hf
  rcases List.mem_append.1 hf with hf | hf
  · exact numF_k _ 1 (snp_nums h hx) f hf
  rcases List.mem_cons.1 hf with rfl | hf
  · exact tfv_k _ _ _ _ (by unfold U64; omega)
  rcases List.mem_append.1 hf with hf | hf
  · split at hf
    · simp only [List.mem_singleton] at hf; subst hf; exact tfv_k _ _ _ _ (by unfold U64; omega)
    · simp at hf
  · split at hf
    · simp only [List.mem_singleton] at hf; subst hf; exact tfv_k _ _ _ _ (by unfold U64; omega)
    · simp at hf
theorem IsKat.k {v : Int} {b : List UInt8} {s : KV} {more : List (List FV)} {top : List FV} (h : IsKat v b s more top) : ∀ f ∈ stF v s more top, U64 f.n ∧ f.len = f.b.length := by
  have hk := kmay_parts h.may
  intro f hf
  unfold stF at hf
  rcases List.mem_append.1 hf with hf | hf
  · exact numF_k _ 1 (st_nums hk) f hf
  rcases List.mem_append.1 hf with hf | hf
  · exact recF_k _ _ f hf
  rcases List.mem_append.1 hf with hf | hf
  · exact recF_k _ _ f hf
  rcases List.mem_append.1 hf with hf | hf
  · exact recF_k _ _ f hf
  rcases List.mem_append.1 hf with hf | hf
  · split at hf
    · simp only [List.mem_singleton] at hf; subst hf; exact tfv_k _ _ _ _ (by have := hk.quota; unfold U64; omega)
    · simp at hf
  · exact h.kt f hf
theorem IsKat.row_ {v : Int} {b : List UInt8} {s : KV} {more : List (List FV)} {top : List FV} (h : IsKat v b s more top) : (ttrow b).2 = 0 ∧ (ttrow b).1.map FV.s = (stF v s more top).map FV.s := by
  have h2 := trow_put _ none none 0 h.row h.k rfl
  have h3 := (fmay_ok h.row).2
  rw [h.put] at h2
  unfold ttrow
  rw [if_neg (by rw [← h.put, rput_len]; omega)]
  exact h2
theorem row_of {l : List FV} (h : fmay l = 0) (hk : ∀ f ∈ l, U64 f.n ∧ f.len = f.b.length) : (ttrow (rput l)).2 = 0 ∧ (ttrow (rput l)).1.map FV.s = l.map FV.s := by
  have h2 := trow_put l none none 0 h hk rfl
  have h3 := (fmay_ok h).2
  unfold ttrow
  rw [if_neg (by rw [rput_len]; omega)]
  exact h2

/-! the parts up to a number, and behind it -/
theorem numF_nums {l : List Int} {k : Nat} : ∀ f ∈ numF k l, (k : Int) ≤ f.num ∧ f.num < k + l.length := by
  intro f hf
  obtain ⟨i, hi, _, rfl⟩ := numF_mem l k f hf
  simp only [tfv]; omega
theorem recF_num {k : Nat} {l : List (List FV)} : ∀ f ∈ recF k l, f.num = k := by
  intro f hf
  obtain ⟨r, _, rfl⟩ := recF_mem hf
  rfl
theorem snpH_num {v ver : Int} {x : NV} (hv : (v = 1 ∧ topN v = 3) ∨ (v = 2 ∧ topN v = 4) ∨ (v = 3 ∧ topN v = 5)) (h : ver = v) : ∀ f ∈ snpH ver x, 1 ≤ f.num ∧ f.num ≤ topN v := by
  intro f hf
  unfold snpH at hf
  rcases List.mem_append.1 hf with hf | hf
  · have := numF_nums f hf
    simp only [List.length_cons, List.length_nil] at this
    omega
  rcases List.mem_cons.1 hf with rfl | hf
  · simp only [tfv]; omega
  rcases List.mem_append.1 hf with hf | hf
  · split at hf
    · simp only [List.mem_singleton] at hf; subst hf; simp only [tfv]; omega
    · simp at hf
  · split at hf
    · simp only [List.mem_singleton] at hf; subst hf; simp only [tfv]; omega
    · simp at hf
/-- the known fields of a catalogue -/
def stH (ver : Int) (s : KV) (more : List (List FV)) : List FV :=
  numF 1 [s.ver, s.next, s.keep] ++ (recF 4 (s.ses.map sesF) ++ (recF 5 (s.ops.map opnF) ++ (recF 6 (snpsF ver s.sns more) ++ (if 3 ≤ ver ∧ s.quota ≠ 0 then [tfv 7 0 s.quota.toNat []] else []))))
theorem stF_eq (ver : Int) (s : KV) (more : List (List FV)) (top : List FV) : stF ver s more top = stH ver s more ++ top := by
  unfold stF stH; simp only [List.append_assoc]
theorem stH_num {v : Int} (hv1 : 1 ≤ v) (hv3 : v ≤ 3) {s : KV} {more : List (List FV)} : ∀ f ∈ stH v s more, 1 ≤ f.num ∧ f.num ≤ topS v := by
  have ht := top_ver hv1 hv3
  intro f hf
  unfold stH at hf
  rcases List.mem_append.1 hf with hf | hf
  · have := numF_nums f hf
    simp only [List.length_cons, List.length_nil] at this
    omega
  rcases List.mem_append.1 hf with hf | hf
  · have := recF_num f hf; omega
  rcases List.mem_append.1 hf with hf | hf
  · have := recF_num f hf; omega
  rcases List.mem_append.1 hf with hf | hf
  · have := recF_num f hf; omega
  · split at hf
    · simp only [List.mem_singleton] at hf; subst hf; simp only [tfv]; omega
    · simp at hf
theorem split_filter {l m : List FV} {k : Nat} (h1 : ∀ f ∈ l, f.num ≤ k) (h2 : lowK k m = false) : (l ++ m).filter (loB k) = l ∧ ((l ++ m).filter fun f => !loB k f) = m := by
  have h2 := lowK_all h2
  constructor
  · rw [List.filter_append, List.filter_eq_self.2 (fun f hf => by simpa [loB] using h1 f hf), List.filter_eq_nil_iff.2 (fun f hf => by have := h2 f hf; simp [loB]; omega), List.append_nil]
  · rw [List.filter_append, List.filter_eq_nil_iff.2 (fun f hf => by have := h1 f hf; simp [loB]; omega), List.filter_eq_self.2 (fun f hf => by have := h2 f hf; simp [loB]; omega), List.nil_append]
end Go.Proofs.YtiildgoaiookhaaGreat

/- What bytes say of a catalogue: plain. -/
namespace Go.Proofs.YtiildgoaiookhaaGreat
open Go.RowKit

/-! checks -/
theorem specB_of {s : SpV} {l : List FV} (h1 : ∀ f ∈ l, f.num = (s.num : Int) → f.wire = (s.wire : Int) ∧ fullB f = true) (h2 : cnt s.num l ≤ 1 ∨ s.many = true) (h3 : s.need = true → 0 < cnt s.num l) : specB s l = true := by
  have ho : oneB s l = true := by
    unfold oneB
    rw [List.all_eq_true]
    intro f hf
    by_cases e : f.num = (s.num : Int)
    · obtain ⟨a, b⟩ := h1 f hf e
      simp [a, b]
    · simp [e]
  unfold specB
  rw [ho, Bool.true_and, Bool.and_eq_true]
  constructor
  · rcases h2 with h | h
    · simp [h]
    · simp [h]
  · by_cases hn : s.need = true
    · simp [h3 hn]
    · simp at hn; simp [hn]
theorem cnt_none {k : Int} {l : List FV} (h : ∀ f ∈ l, f.num ≠ k) : cnt k l = 0 := by
  unfold cnt
  rw [List.length_eq_zero_iff, List.filter_eq_nil_iff]
  intro f hf
  simpa using h f hf
theorem spec_none {s : SpV} {l : List FV} (h : ∀ f ∈ l, f.num ≠ (s.num : Int)) (hn : s.need = false) : specB s l = true :=
  specB_of (fun f hf e => absurd e (h f hf)) (.inl (by rw [cnt_none h]; omega)) (fun h => by rw [hn] at h; cases h)
theorem spec_numF {s : SpV} {L : List Int} {R : List FV} (hw : s.wire = 0) (h1 : 1 ≤ s.num) (hl : s.num ≤ L.length) (hL : ∀ x ∈ L, 0 ≤ x ∧ x ≤ 4611686018427387904) (hR : ∀ f ∈ R, f.num ≠ (s.num : Int)) (hn : s.need = true → L[s.num - 1]'(by omega) ≠ 0) : specB s (numF 1 L ++ R) = true := by
  refine specB_of ?_ ?_ ?_
  · intro f hf e
    rcases List.mem_append.1 hf with hf | hf
    · obtain ⟨i, hi, h0, rfl⟩ := numF_mem _ 1 f hf
      have := (hL _ (List.getElem_mem hi)).1
      refine ⟨by simp [tfv, hw], ?_⟩
      have hz : L[i].toNat ≠ 0 := by omega
      simp [fullB, tfv, hz]
    · exact absurd e (hR f hf)
  · left
    rw [cnt_append, cnt_none hR]
    have := (cnt_numF s.num L 1).1
    omega
  · intro h
    rw [cnt_append]
    have := cnt_in s.num L 1 h1 (by omega) (hn h)
    omega
theorem spec_recF {s : SpV} {P Q : List FV} {rows : List (List FV)} (hw : s.wire = 2) (hm : s.many = true) (hn : s.need = false) (hP : ∀ f ∈ P, f.num ≠ (s.num : Int)) (hQ : ∀ f ∈ Q, f.num ≠ (s.num : Int)) (hne : ∀ r ∈ rows, rput r ≠ []) : specB s (P ++ (recF s.num rows ++ Q)) = true := by
  refine specB_of ?_ (.inr hm) (fun h => by rw [hn] at h; cases h)
  intro f hf e
  rcases List.mem_append.1 hf with hf | hf
  · exact absurd e (hP f hf)
  rcases List.mem_append.1 hf with hf | hf
  · obtain ⟨r, hr, rfl⟩ := recF_mem hf
    have := List.length_pos_iff.2 (hne r hr)
    simp [tfv, hw, fullB, this]
  · exact absurd e (hQ f hf)
theorem spec_one {s : SpV} {P Q : List FV} {f : FV} (h1 : f.num = (s.num : Int)) (h2 : f.wire = (s.wire : Int)) (h3 : fullB f = true) (hP : ∀ f ∈ P, f.num ≠ (s.num : Int)) (hQ : ∀ f ∈ Q, f.num ≠ (s.num : Int)) : specB s (P ++ f :: Q) = true := by
  have hc : cnt s.num (P ++ f :: Q) = 1 := by
    rw [cnt_append, cnt_none hP]
    have := cnt_none hQ
    unfold cnt at this ⊢
    rw [List.filter_cons, if_pos (by simpa using h1), List.length_cons, this]
  refine specB_of ?_ (.inl (by rw [hc]; omega)) (fun _ => by rw [hc]; omega)
  intro g hg e
  rcases List.mem_append.1 hg with hg | hg
  · exact absurd e (hP g hg)
  rcases List.mem_cons.1 hg with rfl | hg
  · exact ⟨h2, h3⟩
  · exact absurd e (hQ g hg)
theorem check_of {S : List SpV} {l : List FV} (hS : S ≠ []) (hm : fmay l = 0) (h : ∀ s ∈ S, specB s l = true) : checkN S l = 0 := by
  unfold checkN
  rw [if_neg hS, if_neg (by simp [hm]), if_pos (by unfold okB; rw [List.all_eq_true]; exact h)]
theorem ver3 {v : Int} (h1 : 1 ≤ v) (h3 : v ≤ 3) : v = 1 ∨ v = 2 ∨ v = 3 := by omega
theorem ses_specs {v : Int} (h1 : 1 ≤ v) (h3 : v ≤ 3) : specL 4 v = [nN 1, nS 2 1, nS 3 1, nS 4 1] := by
  rcases ver3 h1 h3 with rfl | rfl | rfl <;> decide
theorem opn_specs {v : Int} (h1 : 1 ≤ v) (h3 : v ≤ 3) : specL 3 v = [nN 1, nN 2] := by
  rcases ver3 h1 h3 with rfl | rfl | rfl <;> decide
theorem snp_specs {v : Int} (h1 : 1 ≤ v) (h3 : v ≤ 3) : specL 2 v = [nN 1, nN 2, ⟨3, 2, 1, true, false⟩] ++ ((if 2 ≤ v then [nS 4 2] else []) ++ (if 3 ≤ v then [bS 5 3] else [])) := by
  rcases ver3 h1 h3 with rfl | rfl | rfl <;> decide
theorem st_specs {v : Int} (h1 : 1 ≤ v) (h3 : v ≤ 3) : specL 5 v = [nN 1, nN 2, nS 3 1, bM 4, bM 5, bM 6] ++ (if 3 ≤ v then [nS 7 3] else []) := by
  rcases ver3 h1 h3 with rfl | rfl | rfl <;> decide
theorem ses_check {v : Int} {s : KV} (h : KMay v s) {x : CV} (hx : x ∈ s.ses) : checkN (specL 4 v) (sesF x) = 0 := by
  have hb := ses_nums h hx
  have hc := (h.ses x hx).1
  rw [ses_specs h.v1 h.v3]
  refine check_of (by simp) (ses_may h hx).1 fun s hs => ?_
  have e : sesF x = numF 1 [x.client, x.seq, x.code, x.n] ++ [] := by rw [List.append_nil]; rfl
  rw [e]
  simp only [List.mem_cons, List.not_mem_nil, or_false] at hs
  rcases hs with rfl | rfl | rfl | rfl
  · exact spec_numF rfl (by decide) (by simp [nN]) hb (by simp) (fun _ => by show x.client ≠ 0; omega)
  all_goals exact spec_numF rfl (by decide) (by simp [nS]) hb (by simp) (fun h => by cases h)
theorem opn_check {v : Int} {s : KV} (h : KMay v s) {x : OV} (hx : x ∈ s.ops) : checkN (specL 3 v) (opnF x) = 0 := by
  have hb := opn_nums h hx
  have hc := h.ops x hx
  rw [opn_specs h.v1 h.v3]
  refine check_of (by simp) (opn_may h hx).1 fun s hs => ?_
  have e : opnF x = numF 1 [x.set, x.client] ++ [] := by rw [List.append_nil]; rfl
  rw [e]
  simp only [List.mem_cons, List.not_mem_nil, or_false] at hs
  rcases hs with rfl | rfl
  · exact spec_numF rfl (by decide) (by simp [nN]) hb (by simp) (fun _ => by show x.set ≠ 0; omega)
  · exact spec_numF rfl (by decide) (by simp [nN]) hb (by simp) (fun _ => by show x.client ≠ 0; omega)
theorem snp_check {v : Int} {s : KV} (h : KMay v s) {x : NV} (hx : x ∈ s.sns) {m : List FV} (hm : lowK (topN v) m = false) (hr : fmay (snpF v x m) = 0) : checkN (specL 2 v) (snpF v x m) = 0 := by
  have hb := snp_nums h hx
  obtain ⟨c1, c2, c3, c4, c5, c6⟩ := h.sns x hx
  have ht := top_ver h.v1 h.v3
  have hlow := lowK_all hm
  have hch := List.length_pos_iff.2 (chput_ne c3)
  rw [snp_specs h.v1 h.v3]
  refine check_of (by simp) hr fun s hs => ?_
  have n1 : ∀ f ∈ numF 1 [x.id, x.set], f.num = 1 ∨ f.num = 2 := by
    intro f hf
    have := numF_nums f hf
    simp only [List.length_cons, List.length_nil] at this
    omega
  have e : snpF v x m = numF 1 [x.id, x.set] ++ (tfv 3 2 0 (chput x.ch) :: ((if 2 ≤ v ∧ x.held = true then [tfv 4 0 1 []] else []) ++ ((if 3 ≤ v ∧ x.tag ≠ ⟨#[]⟩ then [tfv 5 2 0 x.tag.data.toList] else []) ++ m))) := by
    unfold snpF snpH; simp only [List.append_assoc, List.cons_append]
  have n4 : ∀ f ∈ (if 2 ≤ v ∧ x.held = true then [tfv 4 0 1 []] else []), f.num = 4 ∧ 2 ≤ v := by
    intro f hf
    split at hf
    · rename_i hc; simp only [List.mem_singleton] at hf; subst hf; exact ⟨rfl, hc.1⟩
    · simp at hf
  have n5 : ∀ f ∈ (if 3 ≤ v ∧ x.tag ≠ ⟨#[]⟩ then [tfv 5 2 0 x.tag.data.toList] else []), f.num = 5 ∧ 3 ≤ v := by
    intro f hf
    split at hf
    · rename_i hc; simp only [List.mem_singleton] at hf; subst hf; exact ⟨rfl, hc.1⟩
    · simp at hf
  have nR : ∀ f ∈ (if 2 ≤ v ∧ x.held = true then [tfv 4 0 1 []] else []) ++ ((if 3 ≤ v ∧ x.tag ≠ ⟨#[]⟩ then [tfv 5 2 0 x.tag.data.toList] else []) ++ m), 3 < f.num := by
    intro f hf
    rcases List.mem_append.1 hf with hf | hf
    · have := n4 f hf; omega
    rcases List.mem_append.1 hf with hf | hf
    · have := n5 f hf; omega
    · have := hlow f hf; omega
  rw [e]
  rcases List.mem_append.1 hs with hs | hs
  · simp only [List.mem_cons, List.not_mem_nil, or_false] at hs
    rcases hs with rfl | rfl | rfl
    · refine spec_numF rfl (by decide) (by simp [nN]) hb ?_ (fun _ => by show x.id ≠ 0; omega)
      intro f hf
      rcases List.mem_cons.1 hf with rfl | hf
      · simp [tfv, nN]
      · have := nR f hf; simp only [nN]; omega
    · refine spec_numF rfl (by decide) (by simp [nN]) hb ?_ (fun _ => by show x.set ≠ 0; omega)
      intro f hf
      rcases List.mem_cons.1 hf with rfl | hf
      · simp [tfv, nN]
      · have := nR f hf; simp only [nN]; omega
    · refine spec_one rfl rfl (by simp [fullB, tfv, hch]) ?_ ?_
      · intro f hf; have := n1 f hf; simp only; omega
      · intro f hf; have := nR f hf; simp only; omega
  rcases List.mem_append.1 hs with hs | hs
  · by_cases hv : 2 ≤ v
    · rw [if_pos hv] at hs
      simp only [List.mem_singleton] at hs
      subst hs
      have nQ : ∀ f ∈ (if 3 ≤ v ∧ x.tag ≠ ⟨#[]⟩ then [tfv 5 2 0 x.tag.data.toList] else []) ++ m, 4 < f.num := by
        intro f hf
        rcases List.mem_append.1 hf with hf | hf
        · have := n5 f hf; omega
        · have := hlow f hf; omega
      by_cases hh : x.held = true
      · rw [if_pos ⟨hv, hh⟩]
        generalize ((if 3 ≤ v ∧ x.tag ≠ ⟨#[]⟩ then [tfv 5 2 0 x.tag.data.toList] else []) ++ m) = R at *
        rw [show numF 1 [x.id, x.set] ++ (tfv 3 2 0 (chput x.ch) :: ([tfv 4 0 1 []] ++ R)) = (numF 1 [x.id, x.set] ++ [tfv 3 2 0 (chput x.ch)]) ++ tfv 4 0 1 [] :: R by simp]
        refine spec_one rfl rfl (by simp [fullB, tfv]) ?_ ?_
        · intro f hf
          rcases List.mem_append.1 hf with hf | hf
          · have := n1 f hf; simp only [nS]; omega
          · simp only [List.mem_singleton] at hf; subst hf; simp [tfv, nS]
        · intro f hf; have := nQ f hf; simp only [nS]; omega
      · rw [if_neg (by simp [hh]), List.nil_append]
        refine spec_none ?_ rfl
        intro f hf
        rcases List.mem_append.1 hf with hf | hf
        · have := n1 f hf; simp only [nS]; omega
        rcases List.mem_cons.1 hf with rfl | hf
        · simp [tfv, nS]
        · have := nQ f hf; simp only [nS]; omega
    · rw [if_neg hv] at hs; simp at hs
  · by_cases hv : 3 ≤ v
    · rw [if_pos hv] at hs
      simp only [List.mem_singleton] at hs
      subst hs
      have nP : ∀ f ∈ numF 1 [x.id, x.set] ++ (tfv 3 2 0 (chput x.ch) :: (if 2 ≤ v ∧ x.held = true then [tfv 4 0 1 []] else [])), f.num < 5 := by
        intro f hf
        rcases List.mem_append.1 hf with hf | hf
        · have := n1 f hf; omega
        rcases List.mem_cons.1 hf with rfl | hf
        · simp [tfv]
        · have := n4 f hf; omega
      generalize (if 2 ≤ v ∧ x.held = true then [tfv 4 0 1 []] else []) = H4 at *
      rw [← List.cons_append, ← List.append_assoc]
      by_cases hh : x.tag ≠ ⟨#[]⟩
      · rw [if_pos ⟨hv, hh⟩, List.singleton_append]
        have htl : 0 < x.tag.data.toList.length := by
          refine List.length_pos_iff.2 fun e => hh ?_
          have h2 : x.tag = ⟨x.tag.data.toList.toArray⟩ := by simp
          rw [h2, e]
        refine spec_one rfl rfl (by simp only [fullB, tfv]; exact decide_eq_true htl) ?_ ?_
        · intro f hf; have := nP f hf; simp only [bS]; omega
        · intro f hf; have := hlow f hf; simp only [bS]; omega
      · rw [if_neg (fun k => hh k.2), List.nil_append]
        refine spec_none ?_ rfl
        intro f hf
        rcases List.mem_append.1 hf with hf | hf
        · have := nP f hf; simp only [bS]; omega
        · have := hlow f hf; simp only [bS]; omega
    · rw [if_neg hv] at hs; simp at hs
theorem st_check {v : Int} {b : List UInt8} {s : KV} {more : List (List FV)} {top : List FV} (h : IsKat v b s more top) : checkN (specL 5 v) (stF v s more top) = 0 := by
  have hk := kmay_parts h.may
  have hb := st_nums hk
  have ht := top_ver hk.v1 hk.v3
  obtain ⟨b1, b2, b3⟩ := bad_parts h.bad
  have hlow := lowK_all b1
  have hv1 := hk.ver
  have hv2 := hk.next
  rw [st_specs hk.v1 hk.v3]
  refine check_of (by simp) h.row fun s' hs => ?_
  have n1 : ∀ f ∈ numF 1 [s.ver, s.next, s.keep], f.num < 4 := by
    intro f hf
    have := numF_nums f hf
    simp only [List.length_cons, List.length_nil] at this
    omega
  have n7 : ∀ f ∈ (if 3 ≤ v ∧ s.quota ≠ 0 then [tfv 7 0 s.quota.toNat []] else []), f.num = 7 ∧ 3 ≤ v := by
    intro f hf
    split at hf
    · rename_i hc; simp only [List.mem_singleton] at hf; subst hf; exact ⟨rfl, hc.1⟩
    · simp at hf
  have nt : ∀ f ∈ ((if 3 ≤ v ∧ s.quota ≠ 0 then [tfv 7 0 s.quota.toNat []] else []) ++ top), 6 < f.num := by
    intro f hf
    rcases List.mem_append.1 hf with hf | hf
    · have := n7 f hf; omega
    · have := hlow f hf; omega
  have n6 : ∀ f ∈ recF 6 (snpsF v s.sns more) ++ ((if 3 ≤ v ∧ s.quota ≠ 0 then [tfv 7 0 s.quota.toNat []] else []) ++ top), 5 < f.num := by
    intro f hf
    rcases List.mem_append.1 hf with hf | hf
    · have := recF_num f hf; omega
    · have := nt f hf; omega
  have n5 : ∀ f ∈ recF 5 (s.ops.map opnF) ++ (recF 6 (snpsF v s.sns more) ++ ((if 3 ≤ v ∧ s.quota ≠ 0 then [tfv 7 0 s.quota.toNat []] else []) ++ top)), 4 < f.num := by
    intro f hf
    rcases List.mem_append.1 hf with hf | hf
    · have := recF_num f hf; omega
    · have := n6 f hf; omega
  have n4 : ∀ f ∈ recF 4 (s.ses.map sesF) ++ (recF 5 (s.ops.map opnF) ++ (recF 6 (snpsF v s.sns more) ++ ((if 3 ≤ v ∧ s.quota ≠ 0 then [tfv 7 0 s.quota.toNat []] else []) ++ top))), 3 < f.num := by
    intro f hf
    rcases List.mem_append.1 hf with hf | hf
    · have := recF_num f hf; omega
    · have := n5 f hf; omega
  unfold stF
  rcases List.mem_append.1 hs with hs | hs
  · simp only [List.mem_cons, List.not_mem_nil, or_false] at hs
    rcases hs with rfl | rfl | rfl | rfl | rfl | rfl
    · exact spec_numF rfl (by decide) (by simp [nN]) hb (fun f hf => by have := n4 f hf; simp only [nN]; omega) (fun _ => by show s.ver ≠ 0; omega)
    · exact spec_numF rfl (by decide) (by simp [nN]) hb (fun f hf => by have := n4 f hf; simp only [nN]; omega) (fun _ => by show s.next ≠ 0; omega)
    · exact spec_numF rfl (by decide) (by simp [nS]) hb (fun f hf => by have := n4 f hf; simp only [nS]; omega) (fun h => by cases h)
    · refine spec_recF rfl rfl rfl (fun f hf => by have := n1 f hf; simp only [bM]; omega) (fun f hf => by have := n5 f hf; simp only [bM]; omega) ?_
      intro r hr; obtain ⟨x, hx, rfl⟩ := List.mem_map.1 hr; exact (ses_may hk hx).2.2
    · rw [← List.append_assoc]
      refine spec_recF rfl rfl rfl (fun f hf => ?_) (fun f hf => by have := n6 f hf; simp only [bM]; omega) ?_
      · rcases List.mem_append.1 hf with hf | hf
        · have := n1 f hf; simp only [bM]; omega
        · have := recF_num f hf; simp only [bM]; omega
      · intro r hr; obtain ⟨x, hx, rfl⟩ := List.mem_map.1 hr; exact (opn_may hk hx).2.2
    · rw [← List.append_assoc, ← List.append_assoc]
      refine spec_recF rfl rfl rfl (fun f hf => ?_) (fun f hf => by have := nt f hf; simp only [bM]; omega) ?_
      · rcases List.mem_append.1 hf with hf | hf
        · rcases List.mem_append.1 hf with hf | hf
          · have := n1 f hf; simp only [bM]; omega
          · have := recF_num f hf; simp only [bM]; omega
        · have := recF_num f hf; simp only [bM]; omega
      · intro r hr
        obtain ⟨i, hi, rfl⟩ := snpsF_mem hr
        exact snp_ne hk v (List.getElem_mem hi) _
  · by_cases hv : 3 ≤ v
    · rw [if_pos hv] at hs
      simp only [List.mem_singleton] at hs
      subst hs
      rw [← List.append_assoc, ← List.append_assoc, ← List.append_assoc]
      have nP : ∀ f ∈ ((numF 1 [s.ver, s.next, s.keep] ++ recF 4 (s.ses.map sesF)) ++ recF 5 (s.ops.map opnF)) ++ recF 6 (snpsF v s.sns more), f.num < 7 := by
        intro f hf
        rcases List.mem_append.1 hf with hf | hf
        · rcases List.mem_append.1 hf with hf | hf
          · rcases List.mem_append.1 hf with hf | hf
            · have := n1 f hf; omega
            · have := recF_num f hf; omega
          · have := recF_num f hf; omega
        · have := recF_num f hf; omega
      by_cases hq : s.quota ≠ 0
      · rw [if_pos ⟨hv, hq⟩, List.singleton_append]
        have := hk.quota
        have hz : s.quota.toNat ≠ 0 := by omega
        exact spec_one rfl rfl (by simp [fullB, tfv, hz]) (fun f hf => by have := nP f hf; simp only [nS]; omega) (fun f hf => by have := hlow f hf; simp only [nS]; omega)
      · rw [if_neg (fun k => hq k.2), List.nil_append]
        refine spec_none ?_ rfl
        intro f hf
        rcases List.mem_append.1 hf with hf | hf
        · have := nP f hf; simp only [nS]; omega
        · have := hlow f hf; simp only [nS]; omega
    · rw [if_neg hv] at hs; simp at hs
end Go.Proofs.YtiildgoaiookhaaGreat

/- coracleref03.Same at any two rows. (Taken out of XLtU.) -/
namespace Go.Proofs.YtiildgoaiookhaaGreat
open Go.RowKit

/-- a field without where its bytes lie -/
def FV.q (f : FV) : Int × Int × Nat × List UInt8 := (f.num, f.wire, f.n, f.b)
def fsEq (l m : List FV) : Bool := decide (l.map FV.q = m.map FV.q)
theorem fsEq_cons (a b : FV) (l m : List FV) : fsEq (a :: l) (b :: m) = (decide (a.num = b.num) && (decide (a.wire = b.wire) && (decide (a.n = b.n) && (decide (a.b = b.b) && fsEq l m)))) := by
  unfold fsEq
  simp only [List.map_cons, List.cons.injEq, FV.q, Prod.mk.injEq, Bool.decide_and, Bool.and_assoc]
theorem fsEq_len {l m : List FV} (h : l.length ≠ m.length) : fsEq l m = false := by
  unfold fsEq
  have : ¬ l.map FV.q = m.map FV.q := fun e => by have := congrArg List.length e; simp at this; exact h this
  simp [this]
theorem fsEq_s {l m : List FV} (hl : ∀ f ∈ l, f.len = f.b.length) (hm : ∀ f ∈ m, f.len = f.b.length) : fsEq l m = true ↔ l.map FV.s = m.map FV.s := by
  unfold fsEq
  rw [decide_eq_true_iff]
  have e : ∀ l : List FV, (∀ f ∈ l, f.len = f.b.length) → l.map FV.s = (l.map FV.q).map fun p => (p.1, p.2.1, p.2.2.1, p.2.2.2.length, p.2.2.2) := by
    intro l h
    rw [List.map_map]
    exact List.map_congr_left fun f hf => by simp [FV.s, FV.q, h f hf]
  have e2 : ∀ l : List FV, l.map FV.q = (l.map FV.s).map fun p => (p.1, p.2.1, p.2.2.1, p.2.2.2.2) := by
    intro l; rw [List.map_map]; rfl
  constructor
  · intro h; rw [e l hl, e m hm, h]
  · intro h; rw [e2, e2, h]

set_option maxRecDepth 100000 in
set_option maxHeartbeats 3200000 in
theorem ref03_SameB (A A' : Option Addr) (n n' c c' : Nat) (l m : List FV) (b : Bool) (hb : fsEq l m = b) (w : World) (h1 : Fs w A n l) (h2 : Fs w A' n' m) (hn : n ≤ 1000000) (hn' : n' ≤ 1000000) :
    Calls Tryz.prog 26 #[.slice A n c, .slice A' n' c'] w fun e w' => e = .returned (.bool b) ∧ Ext w w' := by
  have hlen1 := h1.len
  have hlen2 := h2.len
  by_cases hnn : n = n'
  case neg =>
    have hf : b = false := by rw [← hb]; exact fsEq_len (by omega)
    subst hf
    have hk := bne_t (show ((n : Nat) : Int) ≠ n' by omega)
    clear hb h1 h2 hlen1 hlen2
    go_enter Tryz.func26, Tryz.ntmps26
    go_wp2
    go_ret
    exact ⟨rfl, Ext.refl w⟩
  subst hnn
  have Hb := Lib.hid hb
  clear hb
  go_enter Tryz.func26, Tryz.ntmps26
  go_wp2_with fail
  go_loopw [5] (fun i wr => ∃ j : Nat, i = .int .i64 j ∧ j ≤ n ∧ b = fsEq (l.drop j) (m.drop j) ∧ Ext w wr) (fun i _ => n - (intOf i).toNat)
  case atStart => exact ⟨0, rfl, by omega, Hb.out.symm, Ext.refl w⟩
  case round =>
    obtain ⟨j, rfl, hj, hpre, hx⟩ := hrel
    by_cases hjn : j < n
    · have hjl : j < l.length := by omega
      have hjm : j < m.length := by omega
      obtain ⟨bb, off, rfl, c0, c1, c2, c3⟩ := (h1.ext hx).at_ hjn
      obtain ⟨bb', off', rfl, d0, d1, d2, d3⟩ := (h2.ext hx).at_ hjn
      have k1 := (h1.ext hx).ok l[j] (List.getElem_mem _)
      have k2 := (h2.ext hx).ok m[j] (List.getElem_mem _)
      rw [List.drop_eq_getElem_cons hjl, List.drop_eq_getElem_cons hjm, fsEq_cons] at hpre
      generalize l[j] = f at *
      generalize m[j] = g at *
      have b1 := k1.bs
      have b2 := k2.bs
      clear k1 k2 h1 h2 hlen1 hlen2
      have hsA := fun k => str_at (b1.drewN k) f.cap
      have hsB := fun k => str_at (b2.drewN k) g.cap
      clear b1 b2
      have hj0 : (0 : Int) ≤ j := by omega
      have hj1 : (j : Int) < n := by omega
      obtain ⟨fnum, fwire, fn, fA, flen, fcap, fb⟩ := f
      obtain ⟨gnum, gwire, gn, gA, glen, gcap, gb⟩ := g
      dsimp only at hpre hsA hsB c0 d0 c1 d1 c2 d2 c3 d3
      by_cases tnum : fnum = gnum
      case neg =>
        have hf : Hid (b = false) := Lib.hid (by rw [hpre, dec_f tnum]; simp only [Bool.false_and])
        have z := bne_t tnum
        clear tnum hpre
        go_wp2
        go_quiet (fail)
        go_wp2
        go_ret
        exact ⟨by rw [hf.out] <;> rfl, hx.drewN _⟩
      rw [dec_t tnum, Bool.true_and] at hpre
      subst tnum
      by_cases twire : fwire = gwire
      case neg =>
        have hf : Hid (b = false) := Lib.hid (by rw [hpre, dec_f twire]; simp only [Bool.false_and])
        have z := bne_t twire
        clear twire hpre
        go_wp2
        go_quiet (fail)
        go_wp2
        go_ret
        exact ⟨by rw [hf.out] <;> rfl, hx.drewN _⟩
      rw [dec_t twire, Bool.true_and] at hpre
      subst twire
      by_cases tn : fn = gn
      case neg =>
        have hf : Hid (b = false) := Lib.hid (by rw [hpre, dec_f tn]; simp only [Bool.false_and])
        have z := bne_t (show ((fn : Nat) : Int) ≠ gn by omega)
        clear tn hpre
        go_wp2
        go_quiet (fail)
        go_wp2
        go_ret
        exact ⟨by rw [hf.out] <;> rfl, hx.drewN _⟩
      rw [dec_t tn, Bool.true_and] at hpre
      subst tn
      by_cases tb : fb = gb
      case neg =>
        have hf : Hid (b = false) := Lib.hid (by rw [hpre, dec_f tb]; simp only [Bool.false_and])
        have z := bstr_ne tb
        generalize bstr fb = P at *
        generalize bstr gb = Q at *
        clear tb hpre
        go_wp2
        go_quiet (fail)
        go_wp2
        go_ret
        exact ⟨by rw [hf.out] <;> rfl, hx.drewN _⟩
      rw [dec_t tb, Bool.true_and] at hpre
      subst tb
      have HP := Lib.hid hpre
      clear hpre
      go_wp2
      go_quiet (fail)
      go_wp2
      go_roundw
      case rel => exact ⟨j + 1, val_int (by omega), by omega, HP.out, hx.drewN _⟩
      case measure => simp [intOf]; omega
    · obtain rfl : n = j := by omega
      rw [List.drop_of_length_le (by omega), List.drop_of_length_le (by omega)] at hpre
      have HP : Hid (b = true) := Lib.hid hpre
      clear hpre
      go_wp2
      go_ret
      exact ⟨by rw [HP.out] <;> rfl, hx⟩
end Go.Proofs.YtiildgoaiookhaaGreat

/- slices.Clone at bytes; the walk of letter.takeEntry. (Printed by wip/tools/ltent.py.) -/
namespace Go.Proofs.YtiildgoaiookhaaGreat
open Go.RowKit

/-- an entry whose bytes are the call's own -/
structure OwnE (w : World) (B : Nat) (y : EV) : Prop where
  own : w.ownsRow B 5 1 (.slice y.A y.len y.cap) y.len (y.b.map bv)
  t : I64 y.term
theorem OwnE.ext {w w' : World} {B : Nat} {y : EV} (h : OwnE w B y) (he : Ext w w') : OwnE w' B y := ⟨own_ext h.own he, h.t⟩
theorem OwnE.to {w : World} {B B' : Nat} {y : EV} (h : OwnE w B y) (hB : B' ≤ B) : OwnE w B' y := ⟨own_base h.own hB, h.t⟩
theorem OwnE.ok {w : World} {B : Nat} {y : EV} (h : OwnE w B y) : y.Ok w := ⟨Bs.of_own h.own, (own_bounds h.own).1, (own_bounds h.own).2, h.t⟩
theorem own_blk_ne {w : World} {B : Nat} {e t : TypeId} {s n g : Nat} {v : Value} {xs l : List Value} (h : w.ownsRow B e s v n xs) (hb : Blk w g t l) (hne : e ≠ t) : v.ownBlock ≠ some g := by
  rcases h.2 with ⟨rfl, _⟩ | ⟨g', cap, cur, rfl, _, hg, _⟩
  · simp [Value.ownBlock]
  · intro e2
    simp only [Value.ownBlock, Option.some.injEq] at e2
    subst e2
    unfold Blk at hb
    rw [hb] at hg
    injection hg with hg
    injection hg with _ ht
    exact hne ht.symm
theorem own_far' {w : World} {base : Nat} {e : TypeId} {size n : Nat} {v : Value} {xs : List Value} (h : w.ownsRow base e size v n xs) {p : Addr} (hp : v.ownBlock ≠ some p.block) (u : Value) :
    (w.setCell p u).ownsRow base e size v n xs := by
  refine ⟨h.1, ?_⟩
  rcases h.2 with hn | ⟨g, cap, cur, rfl, hb, hg, rest⟩
  · exact .inl hn
  · refine .inr ⟨g, cap, cur, rfl, hb, ?_, rest⟩
    rw [heap_setCell_other w p g u (by simpa [Value.ownBlock] using hp)]
    exact hg
theorem i64_wrap (n : Int) : I64 (IntKind.i64.wrap n) := by
  unfold IntKind.wrap
  simp [IntKind.bits, IntKind.signed]
  constructor <;> (try split) <;> omega
theorem wrap64_eq (n : Int) : wrap64 n = IntKind.i64.wrap n := by
  unfold IntKind.wrap wrap64
  simp [IntKind.bits, IntKind.signed]
  split <;> omega
theorem OwnE.zero (w : World) (B : Nat) : OwnE w B ⟨0, none, 0, 0, []⟩ := ⟨World.ownsRow_nil _ _ _ _, ⟨by decide, by decide⟩⟩

/-- what takeEntry leaves -/
def EntPost (b : List UInt8) (w : World) (e : Ending) (w' : World) : Prop :=
  ∃ y : EV, e = .returned (.tuple #[.agg #[.int .i64 y.term, .slice y.A y.len y.cap], .int .i64 (entCode b)]) ∧ OwnE w' w.heap.size y ∧ y.p = (if entCode b = 0 then entOf (ttrow b).1 else (0, [])) ∧ Ext w w'
end Go.Proofs.YtiildgoaiookhaaGreat
