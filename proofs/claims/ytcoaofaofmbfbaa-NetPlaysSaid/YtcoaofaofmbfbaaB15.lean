/- Words and walks that the last text of this claim stands on: ChkA, LtP, LtE, LtR. No condition. -/
import Derived.Test.YtcoaofaofmbfbaaB09
import Derived.Maps.Views
import Derived.BigGuardPart
import Derived.Test.YtcoaofaofmbfbaaB12
import Derived.Test.YtcoaofaofmbfbaaB11
/- The walk of forms.Check. -/
namespace Go.Proofs.Ytcoaofaofmbfbaa
open Go.RowKit Go.Maps

/-- Block b is a map of at most j numbers, that tells f of each. -/
def TM (w : World) (b j : Nat) (f : Int → Nat) : Prop :=
  ∃ D : DataW Unit, w.ownsMap Try.prog 3 (plainElem Try.prog 3) b j D ∧ ∀ k : Int, D.atKey (.int .i64 k) (.lit (.int .i64 0)) = .lit (.int .i64 (f k))
theorem TM.ext {w w' : World} {b j : Nat} {f : Int → Nat} (h : TM w b j f) (he : Ext w w') : TM w' b j f := by
  obtain ⟨D, h1, h2⟩ := h
  exact ⟨D, h1.kept (row := none) ⟨he.os, he.tape, he.output, he.size, fun k hk _ => he.block k hk⟩ (by simp), h2⟩
theorem TM.alloc_ {w : World} {b j : Nat} {f : Int → Nat} (h : TM w b j f) (o : Obj) : TM (w.alloc o) b j f := h.ext ((Ext.refl w).alloc o)
theorem TM.made (w : World) : TM (w.alloc (.map #[] 0)) w.heap.size 0 (fun _ => 0) :=
  ⟨.map [], World.ownsMap_made _ _ _ _, fun _ => rfl⟩
theorem TM.to {w : World} {b j j' : Nat} {f f' : Int → Nat} (h : TM w b j f) (hj : j ≤ j') (hf : f = f') : TM w b j' f' := by
  subst hf
  obtain ⟨D, h1, h2⟩ := h
  exact ⟨D, h1.mono hj, h2⟩
theorem i64_wf {k : Int} (h0 : 0 ≤ k) (h1 : k ≤ 1000000) : (Lit.int .i64 k).wf = true := by
  simp [Lit.wf, IntKind.min, IntKind.max, IntKind.signed, IntKind.bits]; omega
set_option maxRecDepth 100000 in
theorem TM.look {w : World} {b j : Nat} {f : Int → Nat} (h : TM w b j f) (k : Int) (h0 : 0 ≤ k) (h1 : k ≤ 1000000) :
    (Instr.lookup 116 (.map (some b)) (.int .i64 k) false).run Try.prog w = .ok (.int .i64 (f k)) w := by
  obtain ⟨D, g1, g2⟩ := h
  obtain ⟨c, hrun, hat, _⟩ := g1.lookup_int (int_keyed Try.underlying3) Try.underlying116 Try.underlying3 (by kernel_rfl) (keyOf_int_mk Try.underlying3 (i64_wf h0 h1))
  rw [g2 k] at hat
  injection hat with hat
  injection hat with _ hat
  rw [hrun, hat]
set_option maxRecDepth 100000 in
theorem wpList_times {w : World} {b j : Nat} {f : Int → Nat} (h : TM w b j f) (hj : j < 1000000) (k : Int) (h0 : 0 ≤ k) (h1 : k ≤ 1000000) (n : Nat) (hn : n ≤ 1000000)
    {ops : Array Oper} {rest : List Oper} {o : Oper} {a : Act} {Q : Exit → Act → World → Prop} (hg : o.guard = none) (m x v : Operand) (hop : o.op = Op.mapUpdate 116 m x v)
    (hm : a.eval m = .map (some b)) (hx : a.eval x = .int .i64 k) (c : Int) (hc : c = n) (hv : a.eval v = .int .i64 c)
    (hK : ∀ w', TM w' b (j + 1) (fun z => if z = k then n else f z) → w.grownBy w' (some b) → wpList Try.prog ops Q rest (a.put o.dst undef) w') : wpList Try.prog ops Q (o :: rest) a w := by
  subst hc
  obtain ⟨D, g1, g2⟩ := h
  refine wpList_mapUpdate_own w hg m x v _ hop _ _ (int_keyed Try.underlying3) Try.underlying116 _ b j D hm g1 (by unfold maxLen; omega) _ _ _ hx hv (keyOf_int_mk Try.underlying3 (i64_wf h0 h1)) _ [] (plainElem_int Try.underlying3 (i64_wf (by omega) (by omega))) ?_
  intro w' r1 r2
  refine hK w' ⟨_, r1, fun z => ?_⟩ r2
  obtain ⟨es, clock, _, _, _, hD⟩ := g1
  dsimp only
  by_cases e : z = k
  · subst e
    rw [if_pos rfl, atKey_put_same ⟨_, hD⟩ (by simp [WideAt.IsKeyLit])]
  · rw [if_neg e, atKey_put_other (by intro e2; injection e2 with _ e2; exact e e2)]
    exact g2 z

set_option maxRecDepth 100000 in
set_option maxHeartbeats 400000 in
theorem forms_is (f : FV) (s : SpV) (t : Nat) (w : World) : Calls Try.prog 79 #[f.val, .agg #[.int .i64 s.num, .int .i64 s.wire, .int .i64 s.since, .bool s.need, .bool s.many], .int .i64 t] w fun e w' => e = .returned (.bool (isB f s t)) ∧ Ext w w' := by
  obtain ⟨num, wire, n, A, len, cap, b⟩ := f
  obtain ⟨sn, sw, ss, need, many⟩ := s
  unfold FV.val isB fullB
  dsimp only
  by_cases h1 : wire = (sw : Int)
  · rw [decide_eq_true h1, Bool.true_and]
    have g1 := bne_f h1
    rcases many with _ | _
    · by_cases h2 : t ≤ 1
      · rw [decide_eq_true h2, Bool.true_or, Bool.true_and]
        have g2 : decide ((1 : Int) < (t : Int)) = false := dec_f (by omega)
        by_cases h3 : wire = 0
        · rw [if_pos h3]
          have g3 := beq_t h3
          have e1 : (decide (n ≠ 0)) = ((n : Int) != 0) := by by_cases e : n = 0 <;> simp [e]
          rw [e1]
          clear h1 h2 h3 e1
          go_enter Try.func79, Try.ntmps79
          go_wp2
          go_ret
          exact ⟨rfl, ((Ext.refl w).alloc _).alloc _⟩
        · rw [if_neg h3]
          have g3 := beq_f h3
          have e1 : (decide (0 < len)) = decide ((0 : Int) < (len : Int)) := by simp
          rw [e1]
          clear h1 h2 h3 e1
          go_enter Try.func79, Try.ntmps79
          go_wp2
          go_ret
          exact ⟨ret_bool (by simp), ((Ext.refl w).alloc _).alloc _⟩
      · rw [decide_eq_false h2, Bool.false_or, Bool.false_and]
        have g2 : decide ((1 : Int) < (t : Int)) = true := dec_t (by omega)
        clear h1 h2
        go_enter Try.func79, Try.ntmps79
        go_wp2
        go_ret
        exact ⟨rfl, ((Ext.refl w).alloc _).alloc _⟩
    · rw [Bool.or_true, Bool.true_and]
      have hcs : decide ((1 : Int) < (t : Int)) = false ∨ decide ((1 : Int) < (t : Int)) = true := by cases decide ((1 : Int) < (t : Int)) <;> simp
      by_cases h3 : wire = 0
      · rw [if_pos h3]
        have g3 := beq_t h3
        have e1 : (decide (n ≠ 0)) = ((n : Int) != 0) := by by_cases e : n = 0 <;> simp [e]
        rw [e1]
        clear h1 h3 e1
        rcases hcs with g2 | g2
        all_goals
          go_enter Try.func79, Try.ntmps79
          go_wp2
          go_ret
          exact ⟨rfl, ((Ext.refl w).alloc _).alloc _⟩
      · rw [if_neg h3]
        have g3 := beq_f h3
        have e1 : (decide (0 < len)) = decide ((0 : Int) < (len : Int)) := by simp
        rw [e1]
        clear h1 h3 e1
        rcases hcs with g2 | g2
        all_goals
          go_enter Try.func79, Try.ntmps79
          go_wp2
          go_ret
          exact ⟨ret_bool (by simp), ((Ext.refl w).alloc _).alloc _⟩
  · rw [decide_eq_false h1, Bool.false_and, Bool.false_and]
    have g1 := bne_t h1
    clear h1
    go_enter Try.func79, Try.ntmps79
    go_wp2
    go_ret
    exact ⟨rfl, ((Ext.refl w).alloc _).alloc _⟩

set_option maxRecDepth 100000 in
set_option maxHeartbeats 3200000 in
theorem forms_Check (kind v : Int) (A : Option Addr) (n c : Nat) (l : List FV) (w : World) (hf : Fs w A n l) (hn : n ≤ 20000) :
    Calls Try.prog 52 #[.int .i64 kind, .int .i64 v, .slice A n c] w fun e w' => e = .returned (.int .i64 (checkN (specL kind v) l)) ∧ Ext w w' := by
  have hlen := hf.len
  have HS := Lib.hid (fun w => forms_Specs kind v w)
  have HM := Lib.hid (fun (w' : World) (h : Ext w w') => tlv_May A n c l w' (hf.ext h) (by omega))
  have hN10 := specL_len kind v
  have hnum := specL_num kind v
  generalize specL kind v = S at *
  have HNum := Lib.hid hnum; clear hnum
  by_cases hS : S = []
  · rw [show checkN S l = 1 by simp [checkN, hS]]
    subst hS
    go_enter Try.func52, Try.ntmps52
    go_wp2_with fail
    refine (HS.out _).mono ?_
    rintro e w1 ⟨V, rfl, hown, x1⟩
    obtain ⟨B, cc, rfl, _⟩ := own_form hown
    clear hown
    go_wp2
    go_ret
    exact ⟨rfl, x1⟩
  by_cases hM : fmay l = 0
  rotate_left
  · rw [show checkN S l = fmay l by simp [checkN, hS, hM]]
    have hl0 : (S.length : Int) ≠ 0 := by
      have : S.length ≠ 0 := fun h => hS (List.eq_nil_of_length_eq_zero h)
      omega
    have g0 := beq_f hl0
    have g1 := bne_t (show ((fmay l : Nat) : Int) ≠ 0 by omega)
    clear hS hM hl0
    go_enter Try.func52, Try.ntmps52
    go_wp2_with fail
    refine (HS.out _).mono ?_
    rintro e w1 ⟨V, rfl, hown, x1⟩
    obtain ⟨B, cc, rfl, _⟩ := own_form hown
    clear hown
    go_wp2_with fail
    refine (HM.out _ x1).mono ?_
    rintro e w2 ⟨rfl, x2⟩
    go_wp2
    go_ret
    exact ⟨rfl, x1.trans x2⟩
  obtain ⟨hal, _⟩ := fmay_ok hM
  have HAL := Lib.hid hal; clear hal
  have hcn : checkN S l = if okB S l = true then 0 else 6 := by simp [checkN, hS, hM]
  have HCN := Lib.hid hcn; clear hcn
  rw [hM] at HM
  have hSl : S.length ≠ 0 := fun h => hS (List.eq_nil_of_length_eq_zero h)
  clear hS hM
  generalize hN : S.length = N at *
  have HN := Lib.hid hN; clear hN
  have g0 := beq_f (show (N : Int) ≠ 0 by omega)
  go_enter Try.func52, Try.ntmps52
  go_wp2_with fail
  refine (HS.out _).mono ?_
  rintro e w1 ⟨V, rfl, hown, x1⟩
  obtain ⟨B, cc, rfl, _⟩ := own_form hown
  have hSs := Ss.of_own hown
  clear hown
  go_wp2_with fail
  refine (HM.out _ x1).mono ?_
  rintro e w2 ⟨rfl, x2⟩
  have hSs2 := hSs.ext x2
  have hf2 := hf.ext (x1.trans x2)
  have hx2 := x1.trans x2
  clear HS HM hSs hf x1 x2
  have hmm := @run_makeMap Try.prog
  have hT0 := TM.made w2
  go_wp2
  clear hmm
  go_loopw [30] (fun i wr => ∃ j : Nat, i = .int .i64 j ∧ j ≤ n ∧ TM wr w2.heap.size j (fun k => cnt k (l.take j)) ∧ Ext w2 wr ∧ (∀ i (hi : i < l.length), i < j → ∀ q (hq : q < S.length), l[i].num = (S[q].num : Int) → isB l[i] S[q] (cnt l[i].num (l.take (i + 1))) = true)) (fun i _ => n - (intOf i).toNat)
  case atStart => exact ⟨0, rfl, by omega, hT0, (Ext.refl _).alloc _, fun i _ h => absurd h (by omega)⟩
  case round =>
    obtain ⟨j, rfl, hj, hT, hx, hgood⟩ := hrel
    obtain ⟨wo, rfl⟩ : ∃ wo : World, wo = wr := ⟨_, rfl⟩
    have HG := Lib.hid hgood; clear hgood hT0
    by_cases hjn : j < n
    · obtain ⟨b, off, rfl, d0, d1, d2, d3⟩ := (hf2.ext hx).at_ hjn
      have hal := HAL.out l[j] (List.getElem_mem _)
      have hnl : 1 ≤ l[j].num ∧ l[j].num ≤ 1000 := by
        obtain ⟨num, wire, h1, h2, h3⟩ := alone_tag hal.1
        have := h3.1; have := h3.2.1
        omega
      have hsn := fun k => cnt_snoc k l j (by omega)
      have hearly := fun q (hq : q < S.length) => ok_early (S := S) (l := l) (s := S[q]) (List.getElem_mem _) (j := j) (by omega)
      have hcl := cnt_le l[j].num (l.take j)
      rw [List.length_take] at hcl
      have hT1 := hT.ext ((Ext.refl wo).alloc (.cells #[.int .i64 l[j].num, .int .i64 l[j].wire, .int .u64 l[j].n, .slice l[j].A l[j].len l[j].cap] 75))
      have lk := hT1.look l[j].num (by omega) (by omega)
      obtain ⟨f, hfj⟩ : ∃ f, l[j]'(by omega) = f := ⟨_, rfl⟩
      simp only [hfj] at hsn hearly hcl hT1 lk hnl d0 d1 d2 d3 hal
      have Hfj := Lib.hid hfj
      clear hfj hal
      have Hsn := Lib.hid hsn; clear hsn
      have He := Lib.hid hearly; clear hearly
      obtain ⟨hn1, hn2⟩ := hnl
      go_wp2_with (refine wpList_times hT1 (by omega) f.num (by omega) (by omega) (cnt f.num (l.take j) + 1) (by omega) rfl _ _ _ rfl rfl rfl _ (by omega) rfl ?_; intro w3 hT3 hg3)
      have hTlt : w2.heap.size < wo.heap.size := by
        obtain ⟨D, g1, _⟩ := hT
        exact g1.lt
      have hx3 : Ext w2 w3 := Below.grown (hx.alloc (.cells #[.int .i64 f.num, .int .i64 f.wire, .int .u64 f.n, .slice f.A f.len f.cap] 75)) hg3 (by simp; omega) (fun k hk => by injection hk with hk; omega)
      have hBf : Blk w3 wo.heap.size 75 [.int .i64 f.num, .int .i64 f.wire, .int .u64 f.n, .slice f.A f.len f.cap] := (Blk.new wo _ [.int .i64 f.num, .int .i64 f.wire, .int .u64 f.n, .slice f.A f.len f.cap]).grown hg3 (by intro e; injection e with e; omega)
      have hT3' : TM w3 w2.heap.size (j + 1) (fun k => cnt k (l.take (j + 1))) := hT3.to (Nat.le_refl _) (by
        funext z
        rw [Hsn.out z]
        by_cases e : z = f.num
        · subst e; simp
        · rw [if_neg e, if_neg (fun h => e h.symm)]; rfl)
      have htl : cnt f.num (l.take (j + 1)) ≤ 20001 := by
        rw [Hsn.out]; split <;> omega
      generalize htv : cnt f.num (l.take (j + 1)) = t at *
      have Htv := Lib.hid htv; clear htv
      clear hT hT1 hT3 lk hg3 d0 d1 d2 d3 hx hcl
      go_loopw [41] (fun i wr => ∃ q : Nat, i = .int .i64 q ∧ q ≤ N ∧ Ext w3 wr ∧ (∀ q' (hq' : q' < S.length), q' < q → f.num = (S[q'].num : Int) → isB f S[q'] t = true)) (fun i _ => N - (intOf i).toNat)
      case atStart => exact ⟨0, rfl, by omega, Ext.refl _, fun q' _ h => absurd h (by omega)⟩
      case round =>
        obtain ⟨q, rfl, hq, hxi, hgi⟩ := hrel
        have HGI := Lib.hid hgi; clear hgi
        by_cases hqn : q < N
        · have hqS : q < S.length := by rw [HN.out]; exact hqn
          obtain ⟨sb, soff, rfl, e0, e1, e2, e3, e4⟩ := (hSs2.ext (hx3.trans hxi)).at_ hqn
          have hsn10 := HNum.out S[q] (List.getElem_mem _)
          have hea := He.out q (by rw [HN.out]; exact hqn)
          have HEA := Lib.hid hea; clear hea
          have hB3 := hBf.ext hxi
          have c0 := hB3.cell 0
          have c1 := hB3.cell 1
          have c2 := hB3.cell 2
          have c3 := hB3.cell 3
          simp only [List.getElem?_cons_zero, List.getElem?_cons_succ] at c0 c1 c2 c3
          have hlt3 := hB3.lt
          have HIS := Lib.hid (fun w' => forms_is f (S[q]'(by rw [HN.out]; exact hqn)) t w')
          have hlk := (((hT3'.ext hxi).alloc_ (.cells #[.int .i64 S[q].num, .int .i64 S[q].wire, .int .i64 S[q].since, .bool S[q].need, .bool S[q].many] 108)).look f.num (by omega) (by omega))
          rw [Htv.out] at hlk
          obtain ⟨s, hsq⟩ : ∃ s, S[q]'hqS = s := ⟨_, rfl⟩
          simp only [hsq] at hsn10 HEA HIS hlk e0 e1 e2 e3 e4
          have Hsq := Lib.hid hsq; clear hsq
          clear hB3
          by_cases hnm : f.num = (s.num : Int)
          · have g1 := beq_t hnm.symm
            have hea := HEA.out hnm
            have Hnm := Lib.hid hnm; clear hnm
            rcases hb : isB f s t with _ | _
            · rw [hb] at HIS
              have hfalse := hea hb
              have HF := Lib.hid hfalse; clear hfalse hea hb HEA
              go_wp2_with fail
              refine (HIS.out _).mono ?_
              rintro e w5 ⟨rfl, x5⟩
              go_wp2
              go_ret
              exact ⟨by rw [HCN.out, HF.out]; rfl, hx2.trans (hx3.trans ((hxi.alloc _).trans x5))⟩
            · rw [hb] at HIS
              have HBt := Lib.hid hb; clear hb hea HEA
              go_wp2_with fail
              refine (HIS.out _).mono ?_
              rintro e w5 ⟨rfl, x5⟩
              go_wp2
              go_roundw
              case rel => exact ⟨q + 1, val_int (by omega), by omega, (hxi.alloc _).trans x5, fun q' hq' hlt hn' => by
                rcases Nat.lt_succ_iff_lt_or_eq.1 hlt with h | rfl
                · exact HGI.out q' hq' h hn'
                · rw [Hsq.out]; exact HBt.out⟩
              case measure => simp [intOf]; omega
          · have g1 := beq_f (fun h => hnm h.symm)
            have Hnm := Lib.hid hnm; clear hnm hlk
            go_wp2
            go_roundw
            case rel => exact ⟨q + 1, val_int (by omega), by omega, hxi.alloc _, fun q' hq' hlt hn' => by
              rcases Nat.lt_succ_iff_lt_or_eq.1 hlt with h | rfl
              · exact HGI.out q' hq' h hn'
              · rw [Hsq.out] at hn'; exact absurd hn' Hnm.out⟩
            case measure => simp [intOf]; omega
        · obtain rfl : N = q := by omega
          go_wp2_with fail
          refine ⟨⟨j + 1, val_int (by omega), by omega, hT3'.ext hxi, hx3.trans hxi, fun i hi hlt q hq hn' => ?_⟩, by simp [intOf]; omega⟩
          rcases Nat.lt_succ_iff_lt_or_eq.1 hlt with h | rfl
          · exact HG.out i hi h q hq hn'
          · have hfj := Hfj.out
            rw [hfj] at hn' ⊢
            rw [Htv.out]
            exact HGI.out q hq (by rw [← HN.out]; exact hq) hn'
    · obtain rfl : n = j := by omega
      have hTn : TM wo w2.heap.size n (fun k => cnt k l) := hT.to (Nat.le_refl _) (by funext k; rw [List.take_of_length_le (by omega)])
      clear hT
      go_wp2
      go_loopw [64] (fun i wr => ∃ q : Nat, i = .int .i64 q ∧ q ≤ N ∧ Ext wo wr ∧ (∀ q' (hq' : q' < S.length), q' < q → S[q'].need = true → 0 < cnt S[q'].num l)) (fun i _ => N - (intOf i).toNat)
      case atStart => exact ⟨0, rfl, by omega, Ext.refl _, fun q' _ h => absurd h (by omega)⟩
      case round =>
        obtain ⟨q, rfl, hq, hxi, hgi⟩ := hrel
        have HGI := Lib.hid hgi; clear hgi
        by_cases hqn : q < N
        · have hqS : q < S.length := by rw [HN.out]; exact hqn
          obtain ⟨sb, soff, rfl, e0, e1, e2, e3, e4⟩ := (hSs2.ext (hx.trans hxi)).at_ hqn
          have hsn10 := HNum.out S[q] (List.getElem_mem _)
          have hnd := ok_need (S := S) (l := l) (s := S[q]'(by rw [HN.out]; exact hqn)) (List.getElem_mem _)
          have hlk := (((hTn.ext hxi).alloc_ (.cells #[.int .i64 S[q].num, .int .i64 S[q].wire, .int .i64 S[q].since, .bool S[q].need, .bool S[q].many] 108)).look S[q].num (by omega) (by omega))
          obtain ⟨s, hsq⟩ : ∃ s, S[q]'hqS = s := ⟨_, rfl⟩
          simp only [hsq] at hsn10 hnd hlk e0 e1 e2 e3 e4
          have Hsq := Lib.hid hsq; clear hsq
          obtain ⟨sn, sw, ss, need, many⟩ := s
          dsimp only at hsn10 hnd hlk e0 e1 e2 e3 e4
          have HND := Lib.hid hnd; clear hnd
          rcases need with _ | _
          · clear hlk
            go_wp2
            go_roundw
            case rel => exact ⟨q + 1, val_int (by omega), by omega, hxi.alloc _, fun q' hq' hlt hn' => by
              rcases Nat.lt_succ_iff_lt_or_eq.1 hlt with h | rfl
              · exact HGI.out q' hq' h hn'
              · rw [Hsq.out] at hn'; cases hn'⟩
            case measure => simp [intOf]; omega
          · by_cases hc : cnt (sn : Int) l = 0
            · have hf0 := HND.out rfl hc
              have HF := Lib.hid hf0; clear hf0
              rw [hc] at hlk
              clear hc
              go_wp2
              go_ret
              exact ⟨by rw [HCN.out, HF.out]; rfl, hx2.trans (hx.trans (hxi.alloc _))⟩
            · have g1 := beq_f (show ((cnt (sn : Int) l : Nat) : Int) ≠ 0 by omega)
              have Hc := Lib.hid hc; clear hc
              go_wp2
              go_roundw
              case rel => exact ⟨q + 1, val_int (by omega), by omega, hxi.alloc _, fun q' hq' hlt hn' => by
                rcases Nat.lt_succ_iff_lt_or_eq.1 hlt with h | rfl
                · exact HGI.out q' hq' h hn'
                · rw [Hsq.out]; have := Hc.out; dsimp only; omega⟩
              case measure => simp [intOf]; omega
        · obtain rfl : N = q := by omega
          go_wp2
          go_ret
          have hok : okB S l = true := ok_all (fun j hj q hq hn' => HG.out j hj (by omega) q hq hn') (fun q hq hn' => HGI.out q hq (by rw [← HN.out]; exact hq) hn')
          exact ⟨by rw [HCN.out, hok]; rfl, hx2.trans (hx.trans hxi)⟩
end Go.Proofs.Ytcoaofaofmbfbaa

/- What fields say of an entry, and of a letter: plain. -/
namespace Go.Proofs.Ytcoaofaofmbfbaa
open Go.RowKit

/-! what the checks say hangs on what the fields say -/
theorem s_all {l m : List FV} (h : l.map FV.s = m.map FV.s) (q : Int × Int × Nat × Nat × List UInt8 → Bool) : (l.all fun f => q f.s) = (m.all fun f => q f.s) := by
  have e : ∀ l : List FV, (l.all fun f => q f.s) = (l.map FV.s).all q := by intro l; rw [List.all_map]; rfl
  rw [e, e, h]
theorem s_cnt {l m : List FV} (h : l.map FV.s = m.map FV.s) (k : Int) : cnt k l = cnt k m := by
  have e : ∀ l : List FV, cnt k l = ((l.map FV.s).filter fun p => p.1 == k).length := by
    intro l; unfold cnt; rw [List.filter_map, List.length_map]; rfl
  rw [e, e, h]
theorem s_ok {S : List SpV} {l m : List FV} (h : l.map FV.s = m.map FV.s) : okB S l = okB S m := by
  unfold okB specB
  refine List.all_congr rfl (fun s => ?_)
  have e1 : oneB s l = oneB s m := by
    have := s_all h (fun p => !(p.1 == (s.num : Int)) || (decide (p.2.1 = (s.wire : Int)) && (if p.2.1 = 0 then decide (p.2.2.1 ≠ 0) else decide (0 < p.2.2.2.1))))
    exact this
  rw [e1, s_cnt h]
theorem s_check {S : List SpV} {l m : List FV} (h : l.map FV.s = m.map FV.s) : checkN S l = checkN S m := by
  unfold checkN
  rw [s_may h, s_ok h]
theorem s_filter {l m : List FV} (h : l.map FV.s = m.map FV.s) (k : Int) : (l.filter (loB k)).map FV.s = (m.filter (loB k)).map FV.s ∧ (l.filter fun f => !loB k f).map FV.s = (m.filter fun f => !loB k f).map FV.s := by
  have e1 : ∀ l : List FV, (l.filter (loB k)).map FV.s = (l.map FV.s).filter (fun p => decide (p.1 ≤ k)) := by intro l; rw [List.filter_map]; rfl
  have e2 : ∀ l : List FV, (l.filter fun f => !loB k f).map FV.s = (l.map FV.s).filter (fun p => !decide (p.1 ≤ k)) := by intro l; rw [List.filter_map]; rfl
  rw [e1, e1, e2, e2, h]; exact ⟨rfl, rfl⟩

/-! an entry -/
def entStep (p : Int × List UInt8) (f : FV) : Int × List UInt8 := if f.num = 1 then (IntKind.i64.wrap f.n, p.2) else if f.num = 2 then (p.1, f.b) else p
/-- what fields say of an entry -/
def entOf (l : List FV) : Int × List UInt8 := l.foldl entStep (0, [])
theorem entOf_snoc (l : List FV) (j : Nat) (h : j < l.length) : entOf (l.take (j + 1)) = entStep (entOf (l.take j)) l[j] := by
  unfold entOf
  rw [List.take_succ_eq_append_getElem h, List.foldl_append]; rfl
/-- why bytes are no entry -/
def entCode (b : List UInt8) : Nat := if (ttrow b).2 ≠ 0 then (ttrow b).2 else checkN (specL 7 1) (ttrow b).1
theorem s_entOf {l m : List FV} (h : l.map FV.s = m.map FV.s) : entOf l = entOf m := by
  have e : ∀ (l m : List FV) p, l.map FV.s = m.map FV.s → l.foldl entStep p = m.foldl entStep p := by
    intro l
    induction l with
    | nil => intro m p h; cases m with | nil => rfl | cons b r => simp at h
    | cons a l ih =>
      intro m p h
      cases m with
      | nil => simp at h
      | cons b r =>
        simp only [List.map_cons, List.cons.injEq] at h
        have hs := h.1
        simp only [FV.s, Prod.mk.injEq] at hs
        rw [List.foldl_cons, List.foldl_cons, show entStep p a = entStep p b by unfold entStep; rw [hs.1, hs.2.2.1, hs.2.2.2.2]]
        exact ih r _ h.2
  exact e l m _ h
/-- the bytes of an entry are taken as it -/
theorem ent_row {y : EV} (h : EntOk y) : (ttrow (rput (entF y))).2 = 0 ∧ (ttrow (rput (entF y))).1.map FV.s = (entF y).map FV.s := by
  have h1 := ent_may h
  have h2 := trow_put (entF y) none none 0 h1.1 (entF_k h) rfl
  unfold ttrow
  rw [if_neg (by omega)]
  exact h2
theorem ent_spec7 : specL 7 1 = [nN 1, bS 2 1] := by decide
theorem ent_check {y : EV} (h : EntOk y) : checkN (specL 7 1) (entF y) = 0 := by
  have ht := h.t1
  have e1 : entF y = [tfv 1 0 y.term.toNat []] ++ (if y.b = [] then [] else [tfv 2 2 0 y.b]) := by
    unfold entF; rw [numF_cons, if_neg (by omega)]; rfl
  unfold checkN
  rw [ent_spec7, if_neg (by simp), (ent_may h).1, if_neg (by simp), if_pos]
  have hn : y.term.toNat ≠ 0 := by omega
  by_cases hb : y.b = []
  · rw [e1, if_pos hb]
    simp [okB, specB, oneB, cnt, fullB, tfv, nN, bS, hn]
  · rw [e1, if_neg hb]
    have : 0 < y.b.length := List.length_pos_iff.2 hb
    simp [okB, specB, oneB, cnt, fullB, tfv, nN, bS, hn, this]
theorem ent_code {y : EV} (h : EntOk y) : entCode (rput (entF y)) = 0 := by
  obtain ⟨h1, h2⟩ := ent_row h
  unfold entCode
  rw [if_neg (by simp [h1]), s_check h2, ent_check h]
theorem wrap_nat {n : Int} (h0 : 0 ≤ n) (h : n ≤ 4611686018427387904) : IntKind.i64.wrap ((n.toNat : Nat) : Int) = n := by
  rw [Int.toNat_of_nonneg h0]
  exact IntWalk.i64_in _ ⟨by omega, by omega⟩
theorem ent_of {y : EV} (h : EntOk y) : entOf (ttrow (rput (entF y))).1 = y.p := by
  rw [s_entOf (ent_row h).2]
  have ht := h.t1
  have ht2 := h.t2
  have e1 : entF y = [tfv 1 0 y.term.toNat []] ++ (if y.b = [] then [] else [tfv 2 2 0 y.b]) := by
    unfold entF; rw [numF_cons, if_neg (by omega)]; rfl
  have hw := wrap_nat (n := y.term) (by omega) (by omega)
  rw [e1]
  by_cases hb : y.b = []
  · rw [if_pos hb]
    simp [entOf, entStep, tfv, EV.p, hb, hw, -Int.ofNat_toNat]
  · rw [if_neg hb]
    simp [entOf, entStep, tfv, EV.p, hw, -Int.ofNat_toNat]
end Go.Proofs.Ytcoaofaofmbfbaa

/- slices.Clone at bytes; the walk of letter.takeEntry. (Printed by wip/tools/ltent.py.) -/
namespace Go.Proofs.Ytcoaofaofmbfbaa
open Go.RowKit

set_option maxRecDepth 100000 in
set_option maxHeartbeats 400000 in
theorem u8_Clone (A : Option Addr) (n c : Nat) (l : List UInt8) (w : World) (hb : Bs w A n l) (hn : n ≤ 100000) :
    Calls Try.prog 65 #[.slice A n c] w fun e w' => ∃ v, e = .returned v ∧ w'.ownsRow w.heap.size 5 1 v n (l.map bv) ∧ Ext w w' := by
  have he := fun w => Lib.run_eql_slice_nil (P := Try.prog) w 29 5 A n c 0 0 Try.underlying29
  rcases A with _ | a
  · have h0 : n = 0 := by
      rcases Nat.eq_zero_or_pos n with h | h
      · exact h
      · obtain ⟨b, off, h', _⟩ := hb.at_ h; cases h'
    subst h0
    have hl : l = [] := List.eq_nil_of_length_eq_zero hb.len
    subst hl
    simp only [Option.isNone_none] at he
    clear hb
    go_enter Try.func65, Try.ntmps65
    go_wp2
    go_ret
    exact ⟨_, rfl, World.ownsRow_nil _ _ _ _, Ext.refl w⟩
  · simp only [Option.isNone_some] at he
    have hemp := own_empty w 5 1
    go_enter Try.func65, Try.ntmps65
    go_wp2_with (at_builtin; refine wpList_app bytesT (by omega) _ rfl rfl rfl hemp rfl (Rd.alloc hb _) (bvs_one _) (by unfold maxLen; omega) (by omega) (by simp) ?_; intro v4 w4 hown4 hg4 hat4)
    go_ret
    exact ⟨_, rfl, own_to hown4 (Nat.le_refl _) (by omega) (by simp), Below.app ((Ext.refl w).alloc _) hg4 (by simp) hemp (Nat.le_refl _)⟩

/-- an entry whose bytes are the call's own -/
structure OwnE (w : World) (B : Nat) (y : EV) : Prop where
  own : w.ownsRow B 5 1 (.slice y.A y.len y.cap) y.len (y.b.map bv)
  t : I64 y.term
theorem OwnE.ext {w w' : World} {B : Nat} {y : EV} (h : OwnE w B y) (he : Ext w w') : OwnE w' B y := ⟨own_ext h.own he, h.t⟩
theorem OwnE.to {w : World} {B B' : Nat} {y : EV} (h : OwnE w B y) (hB : B' ≤ B) : OwnE w B' y := ⟨own_base h.own hB, h.t⟩
theorem OwnE.ok {w : World} {B : Nat} {y : EV} (h : OwnE w B y) : y.Ok w := ⟨Bs.of_own h.own, (own_bounds h.own).1, (own_bounds h.own).2, h.t⟩
theorem own_blk_ne {w : World} {B : Nat} {e t : TypeId} {s n g : Nat} {v : Value} {xs l : List Value} (h : w.ownsRow B e s v n xs) (hb : Blk w g t l) (hne : e ≠ t) : v.ownBlock ≠ some g := by
  rcases h.2 with ⟨rfl, _⟩ | ⟨g', cap, cur, rfl, _, hg, _⟩
  · simp [Value.ownBlock]
  · intro e2
    simp only [Value.ownBlock, Option.some.injEq] at e2
    subst e2
    unfold Blk at hb
    rw [hb] at hg
    injection hg with hg
    injection hg with _ ht
    exact hne ht.symm
theorem own_far' {w : World} {base : Nat} {e : TypeId} {size n : Nat} {v : Value} {xs : List Value} (h : w.ownsRow base e size v n xs) {p : Addr} (hp : v.ownBlock ≠ some p.block) (u : Value) :
    (w.setCell p u).ownsRow base e size v n xs := by
  refine ⟨h.1, ?_⟩
  rcases h.2 with hn | ⟨g, cap, cur, rfl, hb, hg, rest⟩
  · exact .inl hn
  · refine .inr ⟨g, cap, cur, rfl, hb, ?_, rest⟩
    rw [heap_setCell_other w p g u (by simpa [Value.ownBlock] using hp)]
    exact hg
theorem OwnE.far {w : World} {B g i : Nat} {y : EV} {l : List Value} (h : OwnE w B y) (hb : Blk w g 31 l) (u : Value) : OwnE (w.setCell ⟨g, i, none⟩ u) B y := ⟨own_far' h.own (own_blk_ne h.own hb (by decide)) u, h.t⟩
theorem i64_wrap (n : Int) : I64 (IntKind.i64.wrap n) := by
  unfold IntKind.wrap
  simp [IntKind.bits, IntKind.signed]
  constructor <;> (try split) <;> omega
theorem wrap64_eq (n : Int) : wrap64 n = IntKind.i64.wrap n := by
  unfold IntKind.wrap wrap64
  simp [IntKind.bits, IntKind.signed]
  split <;> omega
theorem OwnE.zero (w : World) (B : Nat) : OwnE w B ⟨0, none, 0, 0, []⟩ := ⟨World.ownsRow_nil _ _ _ _, ⟨by decide, by decide⟩⟩

/-- what takeEntry leaves -/
def EntPost (b : List UInt8) (w : World) (e : Ending) (w' : World) : Prop :=
  ∃ y : EV, e = .returned (.tuple #[.agg #[.int .i64 y.term, .slice y.A y.len y.cap], .int .i64 (entCode b)]) ∧ OwnE w' w.heap.size y ∧ y.p = (if entCode b = 0 then entOf (ttrow b).1 else (0, [])) ∧ Ext w w'
set_option maxRecDepth 100000 in
set_option maxHeartbeats 1600000 in
theorem letter_takeEntry (A : Option Addr) (n c : Nat) (b : List UInt8) (w : World) (hb : Bs w A n b) (hn : n ≤ 16384) (hnc : n ≤ c) :
    Calls Try.prog 81 #[.slice A n c] w (EntPost b w) := by
  have hG := Blk.new w 31 [.int .i64 0, .slice none 0 0]
  have xw : Ext w (w.alloc (.cells #[.int .i64 0, .slice none 0 0] 31)) := (Ext.refl w).alloc _
  have HT := Lib.hid (tlv_Take_any A n c b (w.alloc (.cells #[.int .i64 0, .slice none 0 0] 31)) (hb.ext xw) (by omega) hnc)
  have HL : Hid (n = b.length) := Lib.hid hb.len.symm
  have HP : Hid (entCode b = if (ttrow b).2 ≠ 0 then (ttrow b).2 else checkN (specL 7 1) (ttrow b).1) := Lib.hid rfl
  have HE : Hid (∀ (W : World) (e : Ending), EntPost b w e W ↔ ∃ y : EV, e = .returned (.tuple #[.agg #[.int .i64 y.term, .slice y.A y.len y.cap], .int .i64 (entCode b)]) ∧ OwnE W w.heap.size y ∧ y.p = (if entCode b = 0 then entOf (ttrow b).1 else (0, [])) ∧ Ext w W) := Lib.hid fun _ _ => Iff.rfl
  have HS := Lib.hid (fun h => ttrow_sound (l := b) h)
  clear hb
  generalize entCode b = code at *
  generalize ttrow b = tr at *
  obtain ⟨L, er⟩ := tr
  dsimp only at HT HP HE HS
  go_enter Try.func81, Try.ntmps81
  go_wp2_with fail
  refine HT.out.mono ?_
  rintro e w1 ⟨A1, c1, ms, rfl, hf, hs, hc1, x1⟩
  replace hG := hG.ext x1
  replace xw := xw.trans x1
  clear HT x1
  by_cases her : er = 0
  · subst her
    have hc0 : Hid (code = checkN (specL 7 1) ms) := Lib.hid (by rw [HP.out, if_neg (by simp), s_check hs])
    have hml : ms.length ≤ 20000 := by
      obtain ⟨k1, k2, k3⟩ := HS.out rfl
      have h1 := rput_field_le L (fmay_ok k3).1
      rw [k2] at h1
      have : ms.length = L.length := by have := congrArg List.length hs; simpa using this
      omega
    have hmok : ∀ f ∈ ms, f.len ≤ 16384 := by
      obtain ⟨k1, k2, k3⟩ := HS.out rfl
      rw [← s_may hs] at k3
      exact fun f hf => ((fmay_ok k3).1 f hf).2
    have HOF : Hid (entOf ms = entOf L) := Lib.hid (s_entOf hs)
    clear hs HP HS
    go_wp2_with fail
    refine (forms_Check 7 1 A1 ms.length c1 ms _ hf hml).mono ?_
    rintro e w2 ⟨rfl, x2⟩
    rw [← hc0.out]
    replace hG := hG.ext x2
    replace xw := xw.trans x2
    replace hf := hf.ext x2
    clear x2 hc0
    by_cases hcd : code = 0
    · subst hcd
      have hgl := hG.lt
      have xw2 := xw
      go_upto_region 8 with fail
      have hY := Blk.new w2 31 [.int .i64 0, .slice none 0 0]
      replace hG := hG.alloc (.cells #[.int .i64 0, .slice none 0 0] 31)
      replace xw := xw.alloc (.cells #[.int .i64 0, .slice none 0 0] 31)
      have x22 : Ext w2 (w2.alloc (.cells #[.int .i64 0, .slice none 0 0] 31)) := (Ext.refl w2).alloc _
      have hwy : w.heap.size < w2.heap.size := hgl
      generalize hgY : w2.heap.size = gY at hY hwy ⊢
      generalize w2.alloc (.cells #[.int .i64 0, .slice none 0 0] 31) = W2 at *
      have hgY2 : w2.heap.size ≤ gY := by omega
      clear hgY hgl
      have HY := Lib.hid hY
      have HG := Lib.hid hG
      have HF := Lib.hid hf
      clear hY hG hf
      go_wp2_with fail
      go_loopw [27] (fun i wr => ∃ j : Nat, i = .int .i64 j ∧ j ≤ ms.length ∧ (∃ y : EV, Blk wr gY 31 [.int .i64 y.term, .slice y.A y.len y.cap] ∧ OwnE wr w.heap.size y ∧ Hid (y.p = entOf (ms.take j))) ∧ Blk wr w.heap.size 31 [.int .i64 0, .slice none 0 0] ∧ Ext w2 wr) (fun i _ => ms.length - (intOf i).toNat)
      case atStart => exact ⟨0, rfl, by omega, ⟨⟨0, none, 0, 0, []⟩, HY.out, OwnE.zero _ _, Lib.hid rfl⟩, HG.out, x22⟩
      case round =>
        clear HY HG
        obtain ⟨j, rfl, hj, ⟨y, hY, hoy, HYP⟩, hG, hx⟩ := hrel
        obtain ⟨yt, yA, yn, yc, yb⟩ := y
        dsimp only at hY
        by_cases hjn : j < ms.length
        · have hjl := hjn
          obtain ⟨bb, off, rfl, e0, e1, e2, e3⟩ := (HF.out.ext hx).at_ hjn
          have hfo := (HF.out.ext hx).ok ms[j] (List.getElem_mem _)
          have hfl := hmok ms[j] (List.getElem_mem _)
          have Hsn := Lib.hid (entOf_snoc ms j hjl)
          generalize ms[j] = f at *
          have hj0 : (0 : Int) ≤ j := by omega
          have hj1 : (j : Int) < ms.length := by omega
          have hbs := hfo.bs
          obtain ⟨num, wire, nn, fA, fl, fc, fb⟩ := f
          dsimp only at e0 e1 e2 e3 hbs hfl
          clear hfo
          have xb : Ext wr (wr.alloc (.cells #[.int .i64 num, .int .i64 wire, .int .u64 nn, .slice fA fl fc] 75)) := (Ext.refl wr).alloc _
          have hY2 := hY.ext xb
          by_cases h1 : num = 1
          · subst h1
            have q0 := hY2.cell 0
            have z0 := hY2.frozen 0
            simp only [List.getElem?_cons_zero] at q0
            have hw2 : I64 (IntKind.i64.wrap (nn : Int)) := i64_wrap _
            obtain ⟨m, hm⟩ : ∃ m, m = IntKind.i64.wrap (nn : Int) := ⟨_, rfl⟩
            rw [← hm] at hw2
            have Hm := Lib.hid hm
            have hm' : wrap64 (nn : Int) = m := (wrap64_eq _).trans hm.symm
            clear hm
            go_wp2_with fail
            go_roundw
            case rel => exact ⟨j + 1, val_int (by omega), by omega, ⟨⟨m, yA, yn, yc, yb⟩, hY2.set_ 0 _, ⟨((hoy.ext xb).far hY2 _).own, hw2⟩, Lib.hid (by rw [Hsn.out, ← HYP.out]; simp [entStep, EV.p, ← Hm.out])⟩, (hG.ext xb).far (by show w.heap.size ≠ gY; omega) _, (hx.trans xb).setCell (by show w2.heap.size ≤ gY; omega) _⟩
            case measure => simp [intOf]; omega
          · by_cases h2 : num = 2
            · subst h2
              have H1 := Lib.hid h1
              clear h1
              go_wp2_with fail
              refine (u8_Clone _ _ _ _ _ (hbs.ext xb) (by omega)).mono ?_
              rintro e w5 ⟨v5, rfl, hown5, x5⟩
              obtain ⟨A5, c5, rfl, _⟩ := own_form hown5
              have hY5 := hY2.ext x5
              have q1 := hY5.cell 1
              have z1 := hY5.frozen 1
              simp only [List.getElem?_cons_zero, List.getElem?_cons_succ] at q1
              have x05 := xb.trans x5
              have hown := own_base (base' := w.heap.size) hown5 (by have := hx.size; have := xw2.size; simp; omega)
              have hoy5 := hoy.ext x05
              have HBL := Lib.hid hbs.len
              clear hown5 hbs x5 hY2 hoy
              go_wp2_with fail
              go_roundw
              case rel => exact ⟨j + 1, val_int (by omega), by omega, ⟨⟨yt, A5, fl, c5, fb⟩, hY5.set_ 1 _, ⟨own_far' hown (own_blk_ne hown hY5 (by decide)) _, hoy5.t⟩, Lib.hid (by rw [Hsn.out, ← HYP.out]; simp [entStep, EV.p])⟩, (hG.ext x05).far (by show w.heap.size ≠ gY; omega) _, (hx.trans x05).setCell (by show w2.heap.size ≤ gY; omega) _⟩
              case measure => simp [intOf]; omega
            · have H1 := Lib.hid h1
              have H2 := Lib.hid h2
              have b1 := beq_f h1
              have b2 := beq_f h2
              clear h1 h2
              go_wp2_with fail
              go_roundw
              case rel => exact ⟨j + 1, val_int (by omega), by omega, ⟨⟨yt, yA, yn, yc, yb⟩, hY2, hoy.ext xb, Lib.hid (by rw [Hsn.out, ← HYP.out]; simp [entStep, H1.out, H2.out])⟩, hG.ext xb, hx.trans xb⟩
              case measure => simp [intOf]; omega
        · obtain rfl : j = ms.length := by omega
          have q0 := hY.cell 0
          have q1 := hY.cell 1
          have g0 := hG.cell 0
          have g1 := hG.cell 1
          simp only [List.getElem?_cons_zero, List.getElem?_cons_succ] at q0 q1 g0 g1
          have z0 := hG.frozen 0
          have z1 := hG.frozen 1
          have HO := Lib.hid hoy
          have HGG := Lib.hid hG
          have hxx := xw2.trans hx
          clear hY hG hoy
          go_wp2_with fail
          refine bodyPost_ret (v := .tuple #[.agg #[.int .i64 yt, .slice yA yn yc], .int .i64 0]) (by simp [results, Try.results81, go_sem, g0, g1]) rfl ?_
          refine (HE.out _ _).2 ⟨⟨yt, yA, yn, yc, yb⟩, rfl, ?_, ?_, ?_⟩
          · exact (HO.out.far HGG.out _).far (HGG.out.set_ 0 _) _
          · rw [if_pos trivial, ← HOF.out, HYP.out, List.take_of_length_le (by omega)]
          · exact (hxx.setCell (Nat.le_refl _) _).setCell (Nat.le_refl _) _
    · have hcd' := bne_t (show ((code : Nat) : Int) ≠ 0 by omega)
      have g0 := hG.cell 0
      have g1 := hG.cell 1
      simp only [List.getElem?_cons_zero, List.getElem?_cons_succ] at g0 g1
      have z0 := hG.frozen 0
      have z1 := hG.frozen 1
      have HC := Lib.hid hcd
      have HGG := Lib.hid hG
      clear hcd hG
      go_wp2_with fail
      refine bodyPost_ret (v := .tuple #[.agg #[.int .i64 0, .slice none 0 0], .int .i64 code]) (by simp [results, Try.results81, go_sem, g0, g1]) rfl ?_
      refine (HE.out _ _).2 ⟨⟨0, none, 0, 0, []⟩, rfl, OwnE.zero _ _, by rw [if_neg HC.out]; rfl, ?_⟩
      exact (xw.setCell (Nat.le_refl _) _).setCell (Nat.le_refl _) _
  · have her' := bne_t (show ((er : Nat) : Int) ≠ 0 by omega)
    have hce : code = er := by rw [HP.out, if_pos her]
    have g0 := hG.cell 0
    have g1 := hG.cell 1
    simp only [List.getElem?_cons_zero, List.getElem?_cons_succ] at g0 g1
    have z0 := hG.frozen 0
    have z1 := hG.frozen 1
    have HC := Lib.hid her
    have HCE := Lib.hid hce
    clear her hG hs HP HS hce
    go_wp2_with fail
    refine bodyPost_ret (v := .tuple #[.agg #[.int .i64 0, .slice none 0 0], .int .i64 er]) (by simp [results, Try.results81, go_sem, g0, g1]) rfl ?_
    refine (HE.out _ _).2 ⟨⟨0, none, 0, 0, []⟩, by rw [HCE.out], OwnE.zero _ _, by rw [HCE.out, if_neg HC.out]; rfl, ?_⟩
    exact (xw.setCell (Nat.le_refl _) _).setCell (Nat.le_refl _) _
end Go.Proofs.Ytcoaofaofmbfbaa

/- The walk of letter.read. (Printed by wip/tools/ltread.py.) -/
namespace Go.Proofs.Ytcoaofaofmbfbaa
open Go.RowKit

/-- what a letter says -/
structure RC where
  kind : Int
  src : Int
  dst : Int
  term : Int
  bin : Int
  a : Int
  b : Int
  c : Int
  ok : Bool
  l : List (Int × List UInt8)
def LV.rc (x : LV) : RC := ⟨x.kind, x.src, x.dst, x.term, x.bin, x.a, x.b, x.c, x.ok, x.l.map EV.p⟩
theorem rc_p {x y : LV} : x.rc = y.rc ↔ x.p = y.p := by
  simp only [LV.rc, LV.p, RC.mk.injEq, Prod.mk.injEq]
  constructor
  · rintro ⟨h1, h2, h3, h4, h5, h6, h7, h8, h9, h10⟩; exact ⟨⟨h1, h2, h3, h4, h5⟩, ⟨h6, h7, h8, h9⟩, h10⟩
  · rintro ⟨⟨h1, h2, h3, h4, h5⟩, ⟨h6, h7, h8, h9⟩, h10⟩; exact ⟨h1, h2, h3, h4, h5, h6, h7, h8, h9, h10⟩
def RC.zero : RC := ⟨0, 0, 0, 0, 0, 0, 0, 0, false, []⟩
def rdStep (X : RC) (f : FV) : RC :=
  if f.num = 1 then { X with kind := IntKind.i64.wrap f.n }
  else if f.num = 2 then { X with src := IntKind.i64.wrap (IntKind.i64.wrap f.n - 1) }
  else if f.num = 3 then { X with dst := IntKind.i64.wrap (IntKind.i64.wrap f.n - 1) }
  else if f.num = 4 then { X with term := IntKind.i64.wrap f.n }
  else if f.num = 5 then { X with bin := IntKind.i64.wrap f.n }
  else if f.num = 6 then { X with a := IntKind.i64.wrap f.n }
  else if f.num = 7 then { X with b := IntKind.i64.wrap f.n }
  else if f.num = 8 then { X with c := IntKind.i64.wrap f.n }
  else if f.num = 9 then { X with ok := IntKind.i64.wrap f.n == 1 }
  else if f.num = 10 then { X with l := X.l ++ [entOf (ttrow f.b).1] }
  else X
/-- what fields say of a letter -/
def readO (l : List FV) : RC := l.foldl rdStep RC.zero
theorem readO_snoc (l : List FV) (j : Nat) (h : j < l.length) : readO (l.take (j + 1)) = rdStep (readO (l.take j)) l[j] := by
  unfold readO
  rw [List.take_succ_eq_append_getElem h, List.foldl_append]; rfl
/-- why fields are no letter's: the first entry that is none -/
def readE : List FV → Nat
  | [] => 0
  | f :: r => if f.num = 10 ∧ entCode f.b ≠ 0 then entCode f.b else readE r
theorem readE_cons (f : FV) (r : List FV) : readE (f :: r) = if f.num = 10 ∧ entCode f.b ≠ 0 then entCode f.b else readE r := rfl
theorem readE_app (l m : List FV) : readE (l ++ m) = if readE l = 0 then readE m else readE l := by
  induction l with
  | nil => rfl
  | cons a r ih =>
    rw [List.cons_append, readE_cons, readE_cons]
    by_cases h : a.num = 10 ∧ entCode a.b ≠ 0
    · rw [if_pos h, if_pos h, if_neg h.2]
    · rw [if_neg h, if_neg h, ih]
theorem readE_snoc (l : List FV) (j : Nat) (h : j < l.length) (h0 : readE (l.take j) = 0) : readE (l.take (j + 1)) = if l[j].num = 10 ∧ entCode l[j].b ≠ 0 then entCode l[j].b else 0 := by
  rw [List.take_succ_eq_append_getElem h, readE_app, if_pos h0]; rfl
theorem readE_bad (l : List FV) (j : Nat) (h : j < l.length) (h0 : readE (l.take j) = 0) (h1 : l[j].num = 10) (h2 : entCode l[j].b ≠ 0) : readE l = entCode l[j].b := by
  have e : readE l = readE (l.take j ++ l.drop j) := by rw [List.take_append_drop]
  rw [e, readE_app, if_pos h0, List.drop_eq_getElem_cons h]
  rw [readE_cons, if_pos ⟨h1, h2⟩]

/-- a letter whose entries, and their bytes, are the call's own -/
structure OwnX (w : World) (B : Nat) (x : LV) : Prop where
  row : w.ownsRow B 31 2 (.slice x.A x.n x.cp) x.n (logOf x.l)
  own : ∀ y ∈ x.l, OwnE w B y
  u0 : I64 x.kind
  u1 : I64 x.src
  u2 : I64 x.dst
  u3 : I64 x.term
  u4 : I64 x.a
  u5 : I64 x.b
  u6 : I64 x.c
  u7 : I64 x.bin
theorem OwnX.ext {w w' : World} {B : Nat} {x : LV} (h : OwnX w B x) (he : Ext w w') : OwnX w' B x := ⟨own_ext h.row he, fun y hy => (h.own y hy).ext he, h.u0, h.u1, h.u2, h.u3, h.u4, h.u5, h.u6, h.u7⟩
theorem OwnX.to {w : World} {B B' : Nat} {x : LV} (h : OwnX w B x) (hB : B' ≤ B) : OwnX w B' x := ⟨own_base h.row hB, fun y hy => (h.own y hy).to hB, h.u0, h.u1, h.u2, h.u3, h.u4, h.u5, h.u6, h.u7⟩
theorem OwnX.ok {w : World} {B : Nat} {x : LV} (h : OwnX w B x) : x.Ok w :=
  ⟨Es.of_own h.row fun y hy => (h.own y hy).ok, (own_bounds h.row).1, (own_bounds h.row).2, h.u0, h.u1, h.u2, h.u3, h.u4, h.u5, h.u6, h.u7⟩
theorem OwnX.far {w : World} {B g i : Nat} {x : LV} {l : List Value} (h : OwnX w B x) (hb : Blk w g 26 l) (u : Value) : OwnX (w.setCell ⟨g, i, none⟩ u) B x :=
  ⟨own_far' h.row (own_blk_ne h.row hb (by decide)) u, fun y hy => ⟨own_far' (h.own y hy).own (own_blk_ne (h.own y hy).own hb (by decide)) u, (h.own y hy).t⟩, h.u0, h.u1, h.u2, h.u3, h.u4, h.u5, h.u6, h.u7⟩
theorem OwnX.st10 {w : World} {B g : Nat} {x : LV} {a' b' c' d' e' f' i' j' k' v' : Value} (h : OwnX w B x) (hb : Blk w g 26 [a', b', c', d', e', f', i', j', k', v']) (a b c d e f i j k v : Value) : OwnX (put10 w g a b c d e f i j k v) B x := by
  unfold put10
  exact (((((((((h.far hb a).far (hb.set_ 0 a) b).far ((hb.set_ 0 a).set_ 1 b) c).far (((hb.set_ 0 a).set_ 1 b).set_ 2 c) d).far ((((hb.set_ 0 a).set_ 1 b).set_ 2 c).set_ 3 d) e).far (((((hb.set_ 0 a).set_ 1 b).set_ 2 c).set_ 3 d).set_ 4 e) f).far ((((((hb.set_ 0 a).set_ 1 b).set_ 2 c).set_ 3 d).set_ 4 e).set_ 5 f) i).far (((((((hb.set_ 0 a).set_ 1 b).set_ 2 c).set_ 3 d).set_ 4 e).set_ 5 f).set_ 6 i) j).far ((((((((hb.set_ 0 a).set_ 1 b).set_ 2 c).set_ 3 d).set_ 4 e).set_ 5 f).set_ 6 i).set_ 7 j) k).far (((((((((hb.set_ 0 a).set_ 1 b).set_ 2 c).set_ 3 d).set_ 4 e).set_ 5 f).set_ 6 i).set_ 7 j).set_ 8 k) v
theorem OwnX.zero (w : World) (B : Nat) : OwnX w B ⟨0, 0, 0, 0, 0, 0, 0, 0, false, none, 0, 0, []⟩ :=
  ⟨World.ownsRow_nil _ _ _ _, by simp, ⟨by decide, by decide⟩, ⟨by decide, by decide⟩, ⟨by decide, by decide⟩, ⟨by decide, by decide⟩, ⟨by decide, by decide⟩, ⟨by decide, by decide⟩, ⟨by decide, by decide⟩, ⟨by decide, by decide⟩⟩
theorem OwnX.app {w w' : World} {B : Nat} {k s d t a b c v : Int} {q : Bool} {A A' : Option Addr} {n cp cp' : Nat} {l : List EV} {y : EV} (h : OwnX w B ⟨k, s, d, t, a, b, c, v, q, A, n, cp, l⟩) (hy : OwnE w B y)
    (hg : w.grownBy w' (Value.slice A n cp).ownBlock) (hown : w'.ownsRow B 31 2 (.slice A' (n + 1) cp') (n + 1) (logOf l ++ [.int .i64 y.term, .slice y.A y.len y.cap])) : OwnX w' B ⟨k, s, d, t, a, b, c, v, q, A', n + 1, cp', l ++ [y]⟩ := by
  have far : ∀ z, OwnE w B z → OwnE w' B z := fun z hz => ⟨own_grown hz.own hg (own_apart hz.own h.row (by decide)), hz.t⟩
  refine ⟨own_to hown (Nat.le_refl _) rfl (by rw [logOf_append, logOf_one]; rfl), fun z hz => ?_, h.u0, h.u1, h.u2, h.u3, h.u4, h.u5, h.u6, h.u7⟩
  rcases List.mem_append.1 hz with hz | hz
  · exact far z (h.own z hz)
  · simp only [List.mem_singleton] at hz
    subst hz; exact far _ hy

/-- what read leaves -/
def ReadPost (l : List FV) (w : World) (e : Ending) (w' : World) : Prop :=
  ∃ x : LV, e = .returned (.tuple #[x.val, .int .i64 (readE l)]) ∧ OwnX w' w.heap.size x ∧ x.rc = (if readE l = 0 then readO l else RC.zero) ∧ x.n ≤ l.length ∧ Ext w w'
set_option maxRecDepth 100000 in
set_option maxHeartbeats 6400000 in
theorem letter_read (A : Option Addr) (n c : Nat) (l : List FV) (w : World) (hf : Fs w A n l) (hn : n ≤ 20000) (hmok : ∀ f ∈ l, f.len ≤ 16384) :
    Calls Try.prog 54 #[.slice A n c] w (ReadPost l w) := by
  have hlen := hf.len
  have hG := (Blk.new w 26 [.int .i64 0, .int .i64 0, .int .i64 0, .int .i64 0, .int .i64 0, .int .i64 0, .int .i64 0, .int .i64 0, .bool false, .slice none 0 0]).alloc (.cells #[.int .i64 0, .int .i64 0, .int .i64 0, .int .i64 0, .int .i64 0, .int .i64 0, .int .i64 0, .int .i64 0, .bool false, .slice none 0 0] 26)
  have hX := Blk.new (w.alloc (.cells #[.int .i64 0, .int .i64 0, .int .i64 0, .int .i64 0, .int .i64 0, .int .i64 0, .int .i64 0, .int .i64 0, .bool false, .slice none 0 0] 26)) 26 [.int .i64 0, .int .i64 0, .int .i64 0, .int .i64 0, .int .i64 0, .int .i64 0, .int .i64 0, .int .i64 0, .bool false, .slice none 0 0]
  rw [show (w.alloc (.cells #[.int .i64 0, .int .i64 0, .int .i64 0, .int .i64 0, .int .i64 0, .int .i64 0, .int .i64 0, .int .i64 0, .bool false, .slice none 0 0] 26)).heap.size = w.heap.size + 1 by simp] at hX
  have xw : Ext w ((w.alloc (.cells #[.int .i64 0, .int .i64 0, .int .i64 0, .int .i64 0, .int .i64 0, .int .i64 0, .int .i64 0, .int .i64 0, .bool false, .slice none 0 0] 26)).alloc (.cells #[.int .i64 0, .int .i64 0, .int .i64 0, .int .i64 0, .int .i64 0, .int .i64 0, .int .i64 0, .int .i64 0, .bool false, .slice none 0 0] 26)) := ((Ext.refl w).alloc _).alloc _
  have HE : Hid (∀ (W : World) (e : Ending), ReadPost l w e W ↔ ∃ x : LV, e = .returned (.tuple #[x.val, .int .i64 (readE l)]) ∧ OwnX W w.heap.size x ∧ x.rc = (if readE l = 0 then readO l else RC.zero) ∧ x.n ≤ l.length ∧ Ext w W) := Lib.hid fun _ _ => Iff.rfl
  have hB1 : w.heap.size + 1 < ((w.alloc (.cells #[.int .i64 0, .int .i64 0, .int .i64 0, .int .i64 0, .int .i64 0, .int .i64 0, .int .i64 0, .int .i64 0, .bool false, .slice none 0 0] 26)).alloc (.cells #[.int .i64 0, .int .i64 0, .int .i64 0, .int .i64 0, .int .i64 0, .int .i64 0, .int .i64 0, .int .i64 0, .bool false, .slice none 0 0] 26)).heap.size := by simp
  go_enter Try.func54, Try.ntmps54
  go_upto_region 2 with fail
  generalize (w.alloc (.cells #[.int .i64 0, .int .i64 0, .int .i64 0, .int .i64 0, .int .i64 0, .int .i64 0, .int .i64 0, .int .i64 0, .bool false, .slice none 0 0] 26)).alloc (.cells #[.int .i64 0, .int .i64 0, .int .i64 0, .int .i64 0, .int .i64 0, .int .i64 0, .int .i64 0, .int .i64 0, .bool false, .slice none 0 0] 26) = W0 at *
  have HX := Lib.hid hX
  have HG := Lib.hid hG
  clear hX hG
  go_wp2_with fail
  go_loopw [12] (fun i wr => ∃ j : Nat, i = .int .i64 j ∧ j ≤ n ∧ (∃ x : LV, Blk wr (w.heap.size + 1) 26 [.int .i64 x.kind, .int .i64 x.src, .int .i64 x.dst, .int .i64 x.term, .int .i64 x.a, .int .i64 x.b, .int .i64 x.c, .int .i64 x.bin, .bool x.ok, .slice x.A x.n x.cp] ∧ OwnX wr w.heap.size x ∧ x.n ≤ j ∧ Hid (x.rc = readO (l.take j))) ∧ Hid (readE (l.take j) = 0) ∧ Blk wr w.heap.size 26 [.int .i64 0, .int .i64 0, .int .i64 0, .int .i64 0, .int .i64 0, .int .i64 0, .int .i64 0, .int .i64 0, .bool false, .slice none 0 0] ∧ Ext w wr) (fun i _ => n - (intOf i).toNat)
  case atStart => exact ⟨0, rfl, by omega, ⟨⟨0, 0, 0, 0, 0, 0, 0, 0, false, none, 0, 0, []⟩, HX.out, OwnX.zero _ _, Nat.le_refl _, Lib.hid rfl⟩, Lib.hid rfl, HG.out, xw⟩
  case round =>
    clear HX HG xw
    obtain ⟨j, rfl, hj, ⟨x, hX, hox, hxj, HRC⟩, HRE, hG, hx⟩ := hrel
    obtain ⟨k0, s0, d0, t0, a0, b0, c0, v0, q0, A0, n0, cp0, l0⟩ := x
    dsimp only at hX hxj
    by_cases hjn : j < n
    · have hjl : j < l.length := by omega
      obtain ⟨bb, off, rfl, e0, e1, e2, e3⟩ := (hf.ext hx).at_ hjn
      have hfo := (hf.ext hx).ok l[j] (List.getElem_mem _)
      have hfl := hmok l[j] (List.getElem_mem _)
      have Hsn := Lib.hid (readO_snoc l j hjl)
      have Hen := Lib.hid (readE_snoc l j hjl HRE.out)
      have Hbd := Lib.hid (fun h1 h2 => readE_bad l j hjl HRE.out h1 h2)
      generalize l[j] = f at *
      have hj0 : (0 : Int) ≤ j := by omega
      have hj1 : (j : Int) < n := by omega
      have hbs := hfo.bs
      have hle := hfo.le
      obtain ⟨num, wire, nn, fA, fl, fc, fb⟩ := f
      dsimp only at e0 e1 e2 e3 hbs hfl hle
      clear hfo
      have xb : Ext wr (wr.alloc (.cells #[.int .i64 num, .int .i64 wire, .int .u64 nn, .slice fA fl fc] 75)) := (Ext.refl wr).alloc _
      have hX2 := hX.ext xb
      have hw2 : I64 (IntKind.i64.wrap (nn : Int)) := i64_wrap _
      obtain ⟨m, hm⟩ : ∃ m, m = IntKind.i64.wrap (nn : Int) := ⟨_, rfl⟩
      rw [← hm] at hw2
      have Hm := Lib.hid hm
      have hm' : wrap64 (nn : Int) = m := (wrap64_eq _).trans hm.symm
      clear hm
      have hX3 := hox.ext xb
      have hGx := hG.ext xb
      have hxx := hx.trans xb
      have hb1 : w.heap.size ≠ w.heap.size + 1 := by omega
      by_cases h1 : num = 1
      · subst h1
        have x0 := hX2.cell 0
        simp only [List.getElem?_cons_zero] at x0
        have z0 := hX2.frozen 0
        have HO := Lib.hid hX3
        have HB := Lib.hid hX2
        have HGG := Lib.hid hGx
        clear hX3 hX2 hX hox hG hGx hbs
        go_wp2_with fail
        go_roundw
        case rel => exact ⟨j + 1, val_int (by omega), by omega, ⟨⟨m, s0, d0, t0, a0, b0, c0, v0, q0, A0, n0, cp0, l0⟩, HB.out.set_ 0 _, ⟨(HO.out.far HB.out _).row, (HO.out.far HB.out _).own, hw2, HO.out.u1, HO.out.u2, HO.out.u3, HO.out.u4, HO.out.u5, HO.out.u6, HO.out.u7⟩, by show n0 ≤ j + 1; omega, Lib.hid (by rw [Hsn.out, ← HRC.out]; simp [rdStep, LV.rc, ← Hm.out])⟩, Lib.hid (by rw [Hen.out]; simp), HGG.out.far hb1 _, hxx.setCell (by show w.heap.size ≤ w.heap.size + 1; omega) _⟩
        case measure => simp [intOf]; omega
      have H1 := Lib.hid h1
      have g1 := beq_f h1
      clear h1
      by_cases h2 : num = 2
      · subst h2
        obtain ⟨m1, hm1⟩ : ∃ m1, m1 = IntKind.i64.wrap (m - 1) := ⟨_, rfl⟩
        have hw3 : I64 m1 := by rw [hm1]; exact i64_wrap _
        have hm1' : wrap64 (m - 1) = m1 := (wrap64_eq _).trans hm1.symm
        have Hm1 := Lib.hid hm1
        clear hm1
        have x1 := hX2.cell 1
        simp only [List.getElem?_cons_zero, List.getElem?_cons_succ] at x1
        have z1 := hX2.frozen 1
        have HO := Lib.hid hX3
        have HB := Lib.hid hX2
        have HGG := Lib.hid hGx
        clear hX3 hX2 hX hox hG hGx hbs
        go_wp2_with fail
        go_roundw
        case rel => exact ⟨j + 1, val_int (by omega), by omega, ⟨⟨k0, m1, d0, t0, a0, b0, c0, v0, q0, A0, n0, cp0, l0⟩, HB.out.set_ 1 _, ⟨(HO.out.far HB.out _).row, (HO.out.far HB.out _).own, HO.out.u0, hw3, HO.out.u2, HO.out.u3, HO.out.u4, HO.out.u5, HO.out.u6, HO.out.u7⟩, by show n0 ≤ j + 1; omega, Lib.hid (by rw [Hsn.out, ← HRC.out]; simp [rdStep, LV.rc, ← Hm.out, ← Hm1.out])⟩, Lib.hid (by rw [Hen.out]; simp), HGG.out.far hb1 _, hxx.setCell (by show w.heap.size ≤ w.heap.size + 1; omega) _⟩
        case measure => simp [intOf]; omega
      have H2 := Lib.hid h2
      have g2 := beq_f h2
      clear h2
      by_cases h3 : num = 3
      · subst h3
        obtain ⟨m1, hm1⟩ : ∃ m1, m1 = IntKind.i64.wrap (m - 1) := ⟨_, rfl⟩
        have hw3 : I64 m1 := by rw [hm1]; exact i64_wrap _
        have hm1' : wrap64 (m - 1) = m1 := (wrap64_eq _).trans hm1.symm
        have Hm1 := Lib.hid hm1
        clear hm1
        have x2 := hX2.cell 2
        simp only [List.getElem?_cons_zero, List.getElem?_cons_succ] at x2
        have z2 := hX2.frozen 2
        have HO := Lib.hid hX3
        have HB := Lib.hid hX2
        have HGG := Lib.hid hGx
        clear hX3 hX2 hX hox hG hGx hbs
        go_wp2_with fail
        go_roundw
        case rel => exact ⟨j + 1, val_int (by omega), by omega, ⟨⟨k0, s0, m1, t0, a0, b0, c0, v0, q0, A0, n0, cp0, l0⟩, HB.out.set_ 2 _, ⟨(HO.out.far HB.out _).row, (HO.out.far HB.out _).own, HO.out.u0, HO.out.u1, hw3, HO.out.u3, HO.out.u4, HO.out.u5, HO.out.u6, HO.out.u7⟩, by show n0 ≤ j + 1; omega, Lib.hid (by rw [Hsn.out, ← HRC.out]; simp [rdStep, LV.rc, ← Hm.out, ← Hm1.out])⟩, Lib.hid (by rw [Hen.out]; simp), HGG.out.far hb1 _, hxx.setCell (by show w.heap.size ≤ w.heap.size + 1; omega) _⟩
        case measure => simp [intOf]; omega
      have H3 := Lib.hid h3
      have g3 := beq_f h3
      clear h3
      by_cases h4 : num = 4
      · subst h4
        have x3 := hX2.cell 3
        simp only [List.getElem?_cons_zero, List.getElem?_cons_succ] at x3
        have z3 := hX2.frozen 3
        have HO := Lib.hid hX3
        have HB := Lib.hid hX2
        have HGG := Lib.hid hGx
        clear hX3 hX2 hX hox hG hGx hbs
        go_wp2_with fail
        go_roundw
        case rel => exact ⟨j + 1, val_int (by omega), by omega, ⟨⟨k0, s0, d0, m, a0, b0, c0, v0, q0, A0, n0, cp0, l0⟩, HB.out.set_ 3 _, ⟨(HO.out.far HB.out _).row, (HO.out.far HB.out _).own, HO.out.u0, HO.out.u1, HO.out.u2, hw2, HO.out.u4, HO.out.u5, HO.out.u6, HO.out.u7⟩, by show n0 ≤ j + 1; omega, Lib.hid (by rw [Hsn.out, ← HRC.out]; simp [rdStep, LV.rc, ← Hm.out])⟩, Lib.hid (by rw [Hen.out]; simp), HGG.out.far hb1 _, hxx.setCell (by show w.heap.size ≤ w.heap.size + 1; omega) _⟩
        case measure => simp [intOf]; omega
      have H4 := Lib.hid h4
      have g4 := beq_f h4
      clear h4
      by_cases h5 : num = 5
      · subst h5
        have x7 := hX2.cell 7
        simp only [List.getElem?_cons_zero, List.getElem?_cons_succ] at x7
        have z7 := hX2.frozen 7
        have HO := Lib.hid hX3
        have HB := Lib.hid hX2
        have HGG := Lib.hid hGx
        clear hX3 hX2 hX hox hG hGx hbs
        go_wp2_with fail
        go_roundw
        case rel => exact ⟨j + 1, val_int (by omega), by omega, ⟨⟨k0, s0, d0, t0, a0, b0, c0, m, q0, A0, n0, cp0, l0⟩, HB.out.set_ 7 _, ⟨(HO.out.far HB.out _).row, (HO.out.far HB.out _).own, HO.out.u0, HO.out.u1, HO.out.u2, HO.out.u3, HO.out.u4, HO.out.u5, HO.out.u6, hw2⟩, by show n0 ≤ j + 1; omega, Lib.hid (by rw [Hsn.out, ← HRC.out]; simp [rdStep, LV.rc, ← Hm.out])⟩, Lib.hid (by rw [Hen.out]; simp), HGG.out.far hb1 _, hxx.setCell (by show w.heap.size ≤ w.heap.size + 1; omega) _⟩
        case measure => simp [intOf]; omega
      have H5 := Lib.hid h5
      have g5 := beq_f h5
      clear h5
      by_cases h6 : num = 6
      · subst h6
        have x4 := hX2.cell 4
        simp only [List.getElem?_cons_zero, List.getElem?_cons_succ] at x4
        have z4 := hX2.frozen 4
        have HO := Lib.hid hX3
        have HB := Lib.hid hX2
        have HGG := Lib.hid hGx
        clear hX3 hX2 hX hox hG hGx hbs
        go_wp2_with fail
        go_roundw
        case rel => exact ⟨j + 1, val_int (by omega), by omega, ⟨⟨k0, s0, d0, t0, m, b0, c0, v0, q0, A0, n0, cp0, l0⟩, HB.out.set_ 4 _, ⟨(HO.out.far HB.out _).row, (HO.out.far HB.out _).own, HO.out.u0, HO.out.u1, HO.out.u2, HO.out.u3, hw2, HO.out.u5, HO.out.u6, HO.out.u7⟩, by show n0 ≤ j + 1; omega, Lib.hid (by rw [Hsn.out, ← HRC.out]; simp [rdStep, LV.rc, ← Hm.out])⟩, Lib.hid (by rw [Hen.out]; simp), HGG.out.far hb1 _, hxx.setCell (by show w.heap.size ≤ w.heap.size + 1; omega) _⟩
        case measure => simp [intOf]; omega
      have H6 := Lib.hid h6
      have g6 := beq_f h6
      clear h6
      by_cases h7 : num = 7
      · subst h7
        have x5 := hX2.cell 5
        simp only [List.getElem?_cons_zero, List.getElem?_cons_succ] at x5
        have z5 := hX2.frozen 5
        have HO := Lib.hid hX3
        have HB := Lib.hid hX2
        have HGG := Lib.hid hGx
        clear hX3 hX2 hX hox hG hGx hbs
        go_wp2_with fail
        go_roundw
        case rel => exact ⟨j + 1, val_int (by omega), by omega, ⟨⟨k0, s0, d0, t0, a0, m, c0, v0, q0, A0, n0, cp0, l0⟩, HB.out.set_ 5 _, ⟨(HO.out.far HB.out _).row, (HO.out.far HB.out _).own, HO.out.u0, HO.out.u1, HO.out.u2, HO.out.u3, HO.out.u4, hw2, HO.out.u6, HO.out.u7⟩, by show n0 ≤ j + 1; omega, Lib.hid (by rw [Hsn.out, ← HRC.out]; simp [rdStep, LV.rc, ← Hm.out])⟩, Lib.hid (by rw [Hen.out]; simp), HGG.out.far hb1 _, hxx.setCell (by show w.heap.size ≤ w.heap.size + 1; omega) _⟩
        case measure => simp [intOf]; omega
      have H7 := Lib.hid h7
      have g7 := beq_f h7
      clear h7
      by_cases h8 : num = 8
      · subst h8
        have x6 := hX2.cell 6
        simp only [List.getElem?_cons_zero, List.getElem?_cons_succ] at x6
        have z6 := hX2.frozen 6
        have HO := Lib.hid hX3
        have HB := Lib.hid hX2
        have HGG := Lib.hid hGx
        clear hX3 hX2 hX hox hG hGx hbs
        go_wp2_with fail
        go_roundw
        case rel => exact ⟨j + 1, val_int (by omega), by omega, ⟨⟨k0, s0, d0, t0, a0, b0, m, v0, q0, A0, n0, cp0, l0⟩, HB.out.set_ 6 _, ⟨(HO.out.far HB.out _).row, (HO.out.far HB.out _).own, HO.out.u0, HO.out.u1, HO.out.u2, HO.out.u3, HO.out.u4, HO.out.u5, hw2, HO.out.u7⟩, by show n0 ≤ j + 1; omega, Lib.hid (by rw [Hsn.out, ← HRC.out]; simp [rdStep, LV.rc, ← Hm.out])⟩, Lib.hid (by rw [Hen.out]; simp), HGG.out.far hb1 _, hxx.setCell (by show w.heap.size ≤ w.heap.size + 1; omega) _⟩
        case measure => simp [intOf]; omega
      have H8 := Lib.hid h8
      have g8 := beq_f h8
      clear h8
      by_cases h9 : num = 9
      · subst h9
        have x8 := hX2.cell 8
        simp only [List.getElem?_cons_zero, List.getElem?_cons_succ] at x8
        have z8 := hX2.frozen 8
        have HO := Lib.hid hX3
        have HB := Lib.hid hX2
        have HGG := Lib.hid hGx
        clear hX3 hX2 hX hox hG hGx hbs
        go_wp2_with fail
        go_roundw
        case rel => exact ⟨j + 1, val_int (by omega), by omega, ⟨⟨k0, s0, d0, t0, a0, b0, c0, v0, (m == 1), A0, n0, cp0, l0⟩, HB.out.set_ 8 _, ⟨(HO.out.far HB.out _).row, (HO.out.far HB.out _).own, HO.out.u0, HO.out.u1, HO.out.u2, HO.out.u3, HO.out.u4, HO.out.u5, HO.out.u6, HO.out.u7⟩, by show n0 ≤ j + 1; omega, Lib.hid (by rw [Hsn.out, ← HRC.out]; simp [rdStep, LV.rc, ← Hm.out])⟩, Lib.hid (by rw [Hen.out]; simp), HGG.out.far hb1 _, hxx.setCell (by show w.heap.size ≤ w.heap.size + 1; omega) _⟩
        case measure => simp [intOf]; omega
      have H9 := Lib.hid h9
      have g9 := beq_f h9
      clear h9
      by_cases h10 : num = 10
      · subst h10
        have HX3 := Lib.hid hX3
        have HXB := Lib.hid hX2
        have HGX := Lib.hid hGx
        clear hX3 hX2 hGx hX hox hG hm'
        go_wp2_with fail
        refine (letter_takeEntry _ _ _ _ _ (hbs.ext xb) hfl hle).mono ?_
        rintro e w5 ⟨y, rfl, hoy, hyp, x5⟩
        have hX5 := HXB.out.ext x5
        have hG5 := HGX.out.ext x5
        have hO5 := HX3.out.ext x5
        have hx5 := hxx.trans x5
        have hoy5 := hoy.to (B' := w.heap.size) (by have := hx.size; simp; omega)
        clear HX3 HXB HGX hoy x5 hbs xb
        obtain ⟨code, hcode⟩ : ∃ k, k = entCode fb := ⟨_, rfl⟩
        rw [← hcode] at hyp ⊢
        have HCD := Lib.hid hcode
        clear hcode
        by_cases hcd : code = 0
        · subst hcd
          have HYP : Hid (y.p = entOf (ttrow fb).1) := Lib.hid (by rw [hyp, if_pos rfl])
          have x56 := (Ext.refl w5).alloc (.cells #[.int .i64 y.term, .slice y.A y.len y.cap] 31)
          have x9 := (hX5.ext x56).cell 9
          simp only [List.getElem?_cons_zero, List.getElem?_cons_succ] at x9
          have hrow := (hO5.row.alloc (.cells #[.int .i64 y.term, .slice y.A y.len y.cap] 31)).alloc (.cells #[.int .i64 y.term, .slice y.A y.len y.cap] 31)
          have hX7 := (hX5.ext x56).alloc (.cells #[.int .i64 y.term, .slice y.A y.len y.cap] 31)
          have hsz := hx5.size
          have HX7 := Lib.hid hX7
          have HO5 := Lib.hid hO5
          have HY5 := Lib.hid hoy5
          have HG5 := Lib.hid hG5
          clear hyp hX7 hX5 hO5 hoy5 hG5
          go_wp2_with (at_builtin; refine wpList_app entsT (by omega) _ rfl rfl rfl hrow rfl (rd_at2 _ (.int .i64 y.term) (.slice y.A y.len y.cap) _ _ (by simp)) (ecells_one _ _ _ _) (by unfold maxLen; omega) (by omega) (by simp; omega) ?_; intro v6 w6 hown6 hg6 hat6; obtain ⟨A6, c6, rfl, _⟩ := own_form hown6; have hX8 := HX7.out.grown hg6 (fun e => own_blk_ne hrow HX7.out (by decide) e.symm); have x9 := hX8.cell 9; have z9 := hX8.frozen 9; simp only [List.getElem?_cons_zero, List.getElem?_cons_succ] at x9)
          have hO8 := (HO5.out.ext (x56.alloc (.cells #[.int .i64 y.term, .slice y.A y.len y.cap] 31))).app (HY5.out.ext (x56.alloc (.cells #[.int .i64 y.term, .slice y.A y.len y.cap] 31))) hg6 hown6
          have hG7 := HG5.out.ext (x56.alloc (.cells #[.int .i64 y.term, .slice y.A y.len y.cap] 31))
          have hG8 := hG7.grown hg6 (fun e => own_blk_ne hrow hG7 (by decide) e.symm)
          have hx8 := Below.app (hx5.trans (x56.alloc (.cells #[.int .i64 y.term, .slice y.A y.len y.cap] 31))) hg6 (by simp; omega) hrow (Nat.le_refl _)
          have HX8 := Lib.hid hX8
          have HO8 := Lib.hid hO8
          have HG8 := Lib.hid hG8
          have HX9 := Lib.hid hx8
          clear hX8 hO8 hG7 hG8 hx8 hown6 hg6 hat6 x9 z9 hrow
          go_roundw
          case rel => exact ⟨j + 1, val_int (by omega), by omega, ⟨⟨k0, s0, d0, t0, a0, b0, c0, v0, q0, A6, n0 + 1, c6, l0 ++ [y]⟩, HX8.out.set_ 9 _, HO8.out.far HX8.out _, by show n0 + 1 ≤ j + 1; omega, Lib.hid (by rw [Hsn.out, ← HRC.out]; simp [rdStep, LV.rc, HYP.out])⟩, Lib.hid (by rw [Hen.out, if_neg (by simp [← HCD.out])]), HG8.out.far hb1 _, Ext.setCell HX9.out (by show w.heap.size ≤ w.heap.size + 1; omega) _⟩
          case measure => simp [intOf]; omega
        · have hcd' := bne_t (show ((code : Nat) : Int) ≠ 0 by omega)
          have hre := Hbd.out trivial (by rw [← HCD.out]; exact hcd)
          rw [← HCD.out] at hre
          have HRE2 := Lib.hid hre
          have hG6 := hG5.alloc (.cells #[.int .i64 y.term, .slice y.A y.len y.cap] 31)
          have g0 := hG6.cell 0
          have g1 := hG6.cell 1
          have g2 := hG6.cell 2
          have g3 := hG6.cell 3
          have g4 := hG6.cell 4
          have g5 := hG6.cell 5
          have g6 := hG6.cell 6
          have g7 := hG6.cell 7
          have g8 := hG6.cell 8
          have g9 := hG6.cell 9
          simp only [List.getElem?_cons_zero, List.getElem?_cons_succ] at g0 g1 g2 g3 g4 g5 g6 g7 g8 g9
          have z0 := hG6.frozen 0
          have z1 := hG6.frozen 1
          have z2 := hG6.frozen 2
          have z3 := hG6.frozen 3
          have z4 := hG6.frozen 4
          have z5 := hG6.frozen 5
          have z6 := hG6.frozen 6
          have z7 := hG6.frozen 7
          have z8 := hG6.frozen 8
          have z9 := hG6.frozen 9
          have HC := Lib.hid hcd
          have HGG := Lib.hid hG6
          clear hre hcd hX5 hO5 hoy5 hG5 hG6 hyp
          go_wp2_with fail
          refine bodyPost_ret (v := .tuple #[.agg #[.int .i64 0, .int .i64 0, .int .i64 0, .int .i64 0, .int .i64 0, .int .i64 0, .int .i64 0, .int .i64 0, .bool false, .slice none 0 0], .int .i64 code]) (by simp [results, Try.results54, go_sem, g0, g1, g2, g3, g4, g5, g6, g7, g8, g9]) rfl ?_
          refine (HE.out _ _).2 ⟨⟨0, 0, 0, 0, 0, 0, 0, 0, false, none, 0, 0, []⟩, by rw [HRE2.out]; rfl, OwnX.zero _ _, by rw [HRE2.out, if_neg HC.out]; rfl, Nat.zero_le _, ?_⟩
          exact (hx5.alloc _).st10 (Nat.le_refl _) _ _ _ _ _ _ _ _ _ _
      have H10 := Lib.hid h10
      have g10 := beq_f h10
      clear h10
      have HO := Lib.hid hX3
      have HB := Lib.hid hX2
      have HGG := Lib.hid hGx
      clear hX3 hX2 hX hox hG hGx hbs
      go_wp2_with fail
      go_roundw
      case rel => exact ⟨j + 1, val_int (by omega), by omega, ⟨⟨k0, s0, d0, t0, a0, b0, c0, v0, q0, A0, n0, cp0, l0⟩, HB.out, HO.out, by show n0 ≤ j + 1; omega, Lib.hid (by rw [Hsn.out, ← HRC.out]; simp [rdStep, H1.out, H2.out, H3.out, H4.out, H5.out, H6.out, H7.out, H8.out, H9.out, H10.out])⟩, Lib.hid (by rw [Hen.out, if_neg (by simp [H10.out])]), HGG.out, hxx⟩
      case measure => simp [intOf]; omega
    · obtain rfl : n = j := by omega
      have hre : readE l = 0 := by have := HRE.out; rwa [List.take_of_length_le (by omega)] at this
      have hrc := HRC.out
      rw [List.take_of_length_le (by omega)] at hrc
      have HRE2 := Lib.hid hre
      have HRC2 := Lib.hid hrc
      have x0 := hX.cell 0
      have x1 := hX.cell 1
      have x2 := hX.cell 2
      have x3 := hX.cell 3
      have x4 := hX.cell 4
      have x5 := hX.cell 5
      have x6 := hX.cell 6
      have x7 := hX.cell 7
      have x8 := hX.cell 8
      have x9 := hX.cell 9
      simp only [List.getElem?_cons_zero, List.getElem?_cons_succ] at x0 x1 x2 x3 x4 x5 x6 x7 x8 x9
      have g0 := hG.cell 0
      have g1 := hG.cell 1
      have g2 := hG.cell 2
      have g3 := hG.cell 3
      have g4 := hG.cell 4
      have g5 := hG.cell 5
      have g6 := hG.cell 6
      have g7 := hG.cell 7
      have g8 := hG.cell 8
      have g9 := hG.cell 9
      simp only [List.getElem?_cons_zero, List.getElem?_cons_succ] at g0 g1 g2 g3 g4 g5 g6 g7 g8 g9
      have z0 := hG.frozen 0
      have z1 := hG.frozen 1
      have z2 := hG.frozen 2
      have z3 := hG.frozen 3
      have z4 := hG.frozen 4
      have z5 := hG.frozen 5
      have z6 := hG.frozen 6
      have z7 := hG.frozen 7
      have z8 := hG.frozen 8
      have z9 := hG.frozen 9
      have HO := Lib.hid hox
      have HGG := Lib.hid hG
      clear hre hrc hX hox hG
      go_wp2_with fail
      refine bodyPost_ret (v := .tuple #[(⟨k0, s0, d0, t0, a0, b0, c0, v0, q0, A0, n0, cp0, l0⟩ : LV).val, .int .i64 0]) (by simp [results, Try.results54, go_sem, g0, g1, g2, g3, g4, g5, g6, g7, g8, g9, LV.val]) rfl ?_
      refine (HE.out _ _).2 ⟨⟨k0, s0, d0, t0, a0, b0, c0, v0, q0, A0, n0, cp0, l0⟩, by rw [HRE2.out]; rfl, ?_, by rw [HRE2.out, if_pos rfl]; exact HRC2.out, by show n0 ≤ l.length; omega, ?_⟩
      · exact HO.out.st10 HGG.out (.int .i64 k0) (.int .i64 s0) (.int .i64 d0) (.int .i64 t0) (.int .i64 a0) (.int .i64 b0) (.int .i64 c0) (.int .i64 v0) (.bool q0) (.slice A0 n0 cp0)
      · exact hx.st10 (Nat.le_refl _) (.int .i64 k0) (.int .i64 s0) (.int .i64 d0) (.int .i64 t0) (.int .i64 a0) (.int .i64 b0) (.int .i64 c0) (.int .i64 v0) (.bool q0) (.slice A0 n0 cp0)
end Go.Proofs.Ytcoaofaofmbfbaa
