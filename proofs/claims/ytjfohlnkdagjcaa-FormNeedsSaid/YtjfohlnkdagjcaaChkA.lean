/- The walk of forms.Check. -/
import Derived.Test.YtjfohlnkdagjcaaFormB
import Derived.Test.YtjfohlnkdagjcaaChk
import Derived.Maps.Views
import Derived.BigGuardPart
namespace Go.Proofs.Ytjfohlnkdagjcaa
open Go.RowKit Go.Maps

/-- Block b is a map of at most j numbers, that tells f of each. -/
def TM (w : World) (b j : Nat) (f : Int → Nat) : Prop :=
  ∃ D : DataW Unit, w.ownsMap Try.prog 3 (plainElem Try.prog 3) b j D ∧ ∀ k : Int, D.atKey (.int .i64 k) (.lit (.int .i64 0)) = .lit (.int .i64 (f k))
theorem TM.ext {w w' : World} {b j : Nat} {f : Int → Nat} (h : TM w b j f) (he : Ext w w') : TM w' b j f := by
  obtain ⟨D, h1, h2⟩ := h
  exact ⟨D, h1.kept (row := none) ⟨he.os, he.tape, he.output, he.size, fun k hk _ => he.block k hk⟩ (by simp), h2⟩
theorem TM.alloc_ {w : World} {b j : Nat} {f : Int → Nat} (h : TM w b j f) (o : Obj) : TM (w.alloc o) b j f := h.ext ((Ext.refl w).alloc o)
theorem TM.made (w : World) : TM (w.alloc (.map #[] 0)) w.heap.size 0 (fun _ => 0) :=
  ⟨.map [], World.ownsMap_made _ _ _ _, fun _ => rfl⟩
theorem TM.to {w : World} {b j j' : Nat} {f f' : Int → Nat} (h : TM w b j f) (hj : j ≤ j') (hf : f = f') : TM w b j' f' := by
  subst hf
  obtain ⟨D, h1, h2⟩ := h
  exact ⟨D, h1.mono hj, h2⟩
theorem i64_wf {k : Int} (h0 : 0 ≤ k) (h1 : k ≤ 1000000) : (Lit.int .i64 k).wf = true := by
  simp [Lit.wf, IntKind.min, IntKind.max, IntKind.signed, IntKind.bits]; omega
theorem TM.look {w : World} {b j : Nat} {f : Int → Nat} (h : TM w b j f) (k : Int) (h0 : 0 ≤ k) (h1 : k ≤ 1000000) :
    (Instr.lookup 76 (.map (some b)) (.int .i64 k) false).run Try.prog w = .ok (.int .i64 (f k)) w := by
  obtain ⟨D, g1, g2⟩ := h
  obtain ⟨c, hrun, hat, _⟩ := g1.lookup_int (int_keyed Try.underlying3) Try.underlying76 Try.underlying3 (by kernel_rfl) (keyOf_int_mk Try.underlying3 (i64_wf h0 h1))
  rw [g2 k] at hat
  injection hat with hat
  injection hat with _ hat
  rw [hrun, hat]
theorem wpList_times {w : World} {b j : Nat} {f : Int → Nat} (h : TM w b j f) (hj : j < 1000000) (k : Int) (h0 : 0 ≤ k) (h1 : k ≤ 1000000) (n : Nat) (hn : n ≤ 1000000)
    {ops : Array Oper} {rest : List Oper} {o : Oper} {a : Act} {Q : Exit → Act → World → Prop} (hg : o.guard = none) (m x v : Operand) (hop : o.op = Op.mapUpdate 76 m x v)
    (hm : a.eval m = .map (some b)) (hx : a.eval x = .int .i64 k) (c : Int) (hc : c = n) (hv : a.eval v = .int .i64 c)
    (hK : ∀ w', TM w' b (j + 1) (fun z => if z = k then n else f z) → w.grownBy w' (some b) → wpList Try.prog ops Q rest (a.put o.dst undef) w') : wpList Try.prog ops Q (o :: rest) a w := by
  subst hc
  obtain ⟨D, g1, g2⟩ := h
  refine wpList_mapUpdate_own w hg m x v _ hop _ _ (int_keyed Try.underlying3) Try.underlying76 _ b j D hm g1 (by unfold maxLen; omega) _ _ _ hx hv (keyOf_int_mk Try.underlying3 (i64_wf h0 h1)) _ [] (plainElem_int Try.underlying3 (i64_wf (by omega) (by omega))) ?_
  intro w' r1 r2
  refine hK w' ⟨_, r1, fun z => ?_⟩ r2
  obtain ⟨es, clock, _, _, _, hD⟩ := g1
  dsimp only
  by_cases e : z = k
  · subst e
    rw [if_pos rfl, atKey_put_same ⟨_, hD⟩ (by simp [WideAt.IsKeyLit])]
  · rw [if_neg e, atKey_put_other (by intro e2; injection e2 with _ e2; exact e e2)]
    exact g2 z

set_option maxRecDepth 100000 in
set_option maxHeartbeats 400000 in
theorem forms_is (f : FV) (s : SpV) (t : Nat) (w : World) : Calls Try.prog 62 #[f.val, .agg #[.int .i64 s.num, .int .i64 s.wire, .int .i64 s.since, .bool s.need, .bool s.many], .int .i64 t] w fun e w' => e = .returned (.bool (isB f s t)) ∧ Ext w w' := by
  obtain ⟨num, wire, n, A, len, cap, b⟩ := f
  obtain ⟨sn, sw, ss, need, many⟩ := s
  unfold FV.val isB fullB
  dsimp only
  by_cases h1 : wire = (sw : Int)
  · rw [decide_eq_true h1, Bool.true_and]
    have g1 := bne_f h1
    rcases many with _ | _
    · by_cases h2 : t ≤ 1
      · rw [decide_eq_true h2, Bool.true_or, Bool.true_and]
        have g2 : decide ((1 : Int) < (t : Int)) = false := dec_f (by omega)
        by_cases h3 : wire = 0
        · rw [if_pos h3]
          have g3 := beq_t h3
          have e1 : (decide (n ≠ 0)) = ((n : Int) != 0) := by by_cases e : n = 0 <;> simp [e]
          rw [e1]
          clear h1 h2 h3 e1
          go_enter Try.func62, Try.ntmps62
          go_wp2
          go_ret
          exact ⟨rfl, ((Ext.refl w).alloc _).alloc _⟩
        · rw [if_neg h3]
          have g3 := beq_f h3
          have e1 : (decide (0 < len)) = decide ((0 : Int) < (len : Int)) := by simp
          rw [e1]
          clear h1 h2 h3 e1
          go_enter Try.func62, Try.ntmps62
          go_wp2
          go_ret
          exact ⟨ret_bool (by simp), ((Ext.refl w).alloc _).alloc _⟩
      · rw [decide_eq_false h2, Bool.false_or, Bool.false_and]
        have g2 : decide ((1 : Int) < (t : Int)) = true := dec_t (by omega)
        clear h1 h2
        go_enter Try.func62, Try.ntmps62
        go_wp2
        go_ret
        exact ⟨rfl, ((Ext.refl w).alloc _).alloc _⟩
    · rw [Bool.or_true, Bool.true_and]
      have hcs : decide ((1 : Int) < (t : Int)) = false ∨ decide ((1 : Int) < (t : Int)) = true := by cases decide ((1 : Int) < (t : Int)) <;> simp
      by_cases h3 : wire = 0
      · rw [if_pos h3]
        have g3 := beq_t h3
        have e1 : (decide (n ≠ 0)) = ((n : Int) != 0) := by by_cases e : n = 0 <;> simp [e]
        rw [e1]
        clear h1 h3 e1
        rcases hcs with g2 | g2
        all_goals
          go_enter Try.func62, Try.ntmps62
          go_wp2
          go_ret
          exact ⟨rfl, ((Ext.refl w).alloc _).alloc _⟩
      · rw [if_neg h3]
        have g3 := beq_f h3
        have e1 : (decide (0 < len)) = decide ((0 : Int) < (len : Int)) := by simp
        rw [e1]
        clear h1 h3 e1
        rcases hcs with g2 | g2
        all_goals
          go_enter Try.func62, Try.ntmps62
          go_wp2
          go_ret
          exact ⟨ret_bool (by simp), ((Ext.refl w).alloc _).alloc _⟩
  · rw [decide_eq_false h1, Bool.false_and, Bool.false_and]
    have g1 := bne_t h1
    clear h1
    go_enter Try.func62, Try.ntmps62
    go_wp2
    go_ret
    exact ⟨rfl, ((Ext.refl w).alloc _).alloc _⟩

set_option maxRecDepth 100000 in
set_option maxHeartbeats 3200000 in
theorem forms_Check (kind v : Int) (A : Option Addr) (n c : Nat) (l : List FV) (w : World) (hf : Fs w A n l) (hn : n ≤ 1000) :
    Calls Try.prog 45 #[.int .i64 kind, .int .i64 v, .slice A n c] w fun e w' => e = .returned (.int .i64 (checkN (specL kind v) l)) ∧ Ext w w' := by
  have hlen := hf.len
  have HS := Lib.hid (fun w => forms_Specs kind v w)
  have HM := Lib.hid (fun (w' : World) (h : Ext w w') => tlv_May A n c l w' (hf.ext h) (by omega))
  have hN10 := specL_len kind v
  have hnum := specL_num kind v
  generalize specL kind v = S at *
  have HNum := Lib.hid hnum; clear hnum
  by_cases hS : S = []
  · rw [show checkN S l = 1 by simp [checkN, hS]]
    subst hS
    go_enter Try.func45, Try.ntmps45
    go_wp2_with fail
    refine (HS.out _).mono ?_
    rintro e w1 ⟨V, rfl, hown, x1⟩
    obtain ⟨B, cc, rfl, _⟩ := own_form hown
    clear hown
    go_wp2
    go_ret
    exact ⟨rfl, x1⟩
  by_cases hM : fmay l = 0
  rotate_left
  · rw [show checkN S l = fmay l by simp [checkN, hS, hM]]
    have hl0 : (S.length : Int) ≠ 0 := by
      have : S.length ≠ 0 := fun h => hS (List.eq_nil_of_length_eq_zero h)
      omega
    have g0 := beq_f hl0
    have g1 := bne_t (show ((fmay l : Nat) : Int) ≠ 0 by omega)
    clear hS hM hl0
    go_enter Try.func45, Try.ntmps45
    go_wp2_with fail
    refine (HS.out _).mono ?_
    rintro e w1 ⟨V, rfl, hown, x1⟩
    obtain ⟨B, cc, rfl, _⟩ := own_form hown
    clear hown
    go_wp2_with fail
    refine (HM.out _ x1).mono ?_
    rintro e w2 ⟨rfl, x2⟩
    go_wp2
    go_ret
    exact ⟨rfl, x1.trans x2⟩
  obtain ⟨hal, _⟩ := fmay_ok hM
  have HAL := Lib.hid hal; clear hal
  have hcn : checkN S l = if okB S l = true then 0 else 6 := by simp [checkN, hS, hM]
  have HCN := Lib.hid hcn; clear hcn
  rw [hM] at HM
  have hSl : S.length ≠ 0 := fun h => hS (List.eq_nil_of_length_eq_zero h)
  clear hS hM
  generalize hN : S.length = N at *
  have HN := Lib.hid hN; clear hN
  have g0 := beq_f (show (N : Int) ≠ 0 by omega)
  go_enter Try.func45, Try.ntmps45
  go_wp2_with fail
  refine (HS.out _).mono ?_
  rintro e w1 ⟨V, rfl, hown, x1⟩
  obtain ⟨B, cc, rfl, _⟩ := own_form hown
  have hSs := Ss.of_own hown
  clear hown
  go_wp2_with fail
  refine (HM.out _ x1).mono ?_
  rintro e w2 ⟨rfl, x2⟩
  have hSs2 := hSs.ext x2
  have hf2 := hf.ext (x1.trans x2)
  have hx2 := x1.trans x2
  clear HS HM hSs hf x1 x2
  have hmm := @run_makeMap Try.prog
  have hT0 := TM.made w2
  go_wp2
  clear hmm
  go_loopw [30] (fun i wr => ∃ j : Nat, i = .int .i64 j ∧ j ≤ n ∧ TM wr w2.heap.size j (fun k => cnt k (l.take j)) ∧ Ext w2 wr ∧ (∀ i (hi : i < l.length), i < j → ∀ q (hq : q < S.length), l[i].num = (S[q].num : Int) → isB l[i] S[q] (cnt l[i].num (l.take (i + 1))) = true)) (fun i _ => n - (intOf i).toNat)
  case atStart => exact ⟨0, rfl, by omega, hT0, (Ext.refl _).alloc _, fun i _ h => absurd h (by omega)⟩
  case round =>
    obtain ⟨j, rfl, hj, hT, hx, hgood⟩ := hrel
    obtain ⟨wo, rfl⟩ : ∃ wo : World, wo = wr := ⟨_, rfl⟩
    have HG := Lib.hid hgood; clear hgood hT0
    by_cases hjn : j < n
    · obtain ⟨b, off, rfl, d0, d1, d2, d3⟩ := (hf2.ext hx).at_ hjn
      have hal := HAL.out l[j] (List.getElem_mem _)
      have hnl : 1 ≤ l[j].num ∧ l[j].num ≤ 1000 := by
        obtain ⟨num, wire, h1, h2, h3⟩ := alone_tag hal.1
        have := h3.1; have := h3.2.1
        omega
      have hsn := fun k => cnt_snoc k l j (by omega)
      have hearly := fun q (hq : q < S.length) => ok_early (S := S) (l := l) (s := S[q]) (List.getElem_mem _) (j := j) (by omega)
      have hcl := cnt_le l[j].num (l.take j)
      rw [List.length_take] at hcl
      have hT1 := hT.ext ((Ext.refl wo).alloc (.cells #[.int .i64 l[j].num, .int .i64 l[j].wire, .int .u64 l[j].n, .slice l[j].A l[j].len l[j].cap] 42))
      have lk := hT1.look l[j].num (by omega) (by omega)
      obtain ⟨f, hfj⟩ : ∃ f, l[j]'(by omega) = f := ⟨_, rfl⟩
      simp only [hfj] at hsn hearly hcl hT1 lk hnl d0 d1 d2 d3 hal
      have Hfj := Lib.hid hfj
      clear hfj hal
      have Hsn := Lib.hid hsn; clear hsn
      have He := Lib.hid hearly; clear hearly
      obtain ⟨hn1, hn2⟩ := hnl
      go_wp2_with (refine wpList_times hT1 (by omega) f.num (by omega) (by omega) (cnt f.num (l.take j) + 1) (by omega) rfl _ _ _ rfl rfl rfl _ (by omega) rfl ?_; intro w3 hT3 hg3)
      have hTlt : w2.heap.size < wo.heap.size := by
        obtain ⟨D, g1, _⟩ := hT
        exact g1.lt
      have hx3 : Ext w2 w3 := Below.grown (hx.alloc (.cells #[.int .i64 f.num, .int .i64 f.wire, .int .u64 f.n, .slice f.A f.len f.cap] 42)) hg3 (by simp; omega) (fun k hk => by injection hk with hk; omega)
      have hBf : Blk w3 wo.heap.size 42 [.int .i64 f.num, .int .i64 f.wire, .int .u64 f.n, .slice f.A f.len f.cap] := (Blk.new wo _ [.int .i64 f.num, .int .i64 f.wire, .int .u64 f.n, .slice f.A f.len f.cap]).grown hg3 (by intro e; injection e with e; omega)
      have hT3' : TM w3 w2.heap.size (j + 1) (fun k => cnt k (l.take (j + 1))) := hT3.to (Nat.le_refl _) (by
        funext z
        rw [Hsn.out z]
        by_cases e : z = f.num
        · subst e; simp
        · rw [if_neg e, if_neg (fun h => e h.symm)]; rfl)
      have htl : cnt f.num (l.take (j + 1)) ≤ 1001 := by
        rw [Hsn.out]; split <;> omega
      generalize htv : cnt f.num (l.take (j + 1)) = t at *
      have Htv := Lib.hid htv; clear htv
      clear hT hT1 hT3 lk hg3 d0 d1 d2 d3 hx hcl
      go_loopw [41] (fun i wr => ∃ q : Nat, i = .int .i64 q ∧ q ≤ N ∧ Ext w3 wr ∧ (∀ q' (hq' : q' < S.length), q' < q → f.num = (S[q'].num : Int) → isB f S[q'] t = true)) (fun i _ => N - (intOf i).toNat)
      case atStart => exact ⟨0, rfl, by omega, Ext.refl _, fun q' _ h => absurd h (by omega)⟩
      case round =>
        obtain ⟨q, rfl, hq, hxi, hgi⟩ := hrel
        have HGI := Lib.hid hgi; clear hgi
        by_cases hqn : q < N
        · have hqS : q < S.length := by rw [HN.out]; exact hqn
          obtain ⟨sb, soff, rfl, e0, e1, e2, e3, e4⟩ := (hSs2.ext (hx3.trans hxi)).at_ hqn
          have hsn10 := HNum.out S[q] (List.getElem_mem _)
          have hea := He.out q (by rw [HN.out]; exact hqn)
          have HEA := Lib.hid hea; clear hea
          have hB3 := hBf.ext hxi
          have c0 := hB3.cell 0
          have c1 := hB3.cell 1
          have c2 := hB3.cell 2
          have c3 := hB3.cell 3
          simp only [List.getElem?_cons_zero, List.getElem?_cons_succ] at c0 c1 c2 c3
          have hlt3 := hB3.lt
          have HIS := Lib.hid (fun w' => forms_is f (S[q]'(by rw [HN.out]; exact hqn)) t w')
          have hlk := (((hT3'.ext hxi).alloc_ (.cells #[.int .i64 S[q].num, .int .i64 S[q].wire, .int .i64 S[q].since, .bool S[q].need, .bool S[q].many] 60)).look f.num (by omega) (by omega))
          rw [Htv.out] at hlk
          obtain ⟨s, hsq⟩ : ∃ s, S[q]'hqS = s := ⟨_, rfl⟩
          simp only [hsq] at hsn10 HEA HIS hlk e0 e1 e2 e3 e4
          have Hsq := Lib.hid hsq; clear hsq
          clear hB3
          by_cases hnm : f.num = (s.num : Int)
          · have g1 := beq_t hnm.symm
            have hea := HEA.out hnm
            have Hnm := Lib.hid hnm; clear hnm
            rcases hb : isB f s t with _ | _
            · rw [hb] at HIS
              have hfalse := hea hb
              have HF := Lib.hid hfalse; clear hfalse hea hb HEA
              go_wp2_with fail
              refine (HIS.out _).mono ?_
              rintro e w5 ⟨rfl, x5⟩
              go_wp2
              go_ret
              exact ⟨by rw [HCN.out, HF.out]; rfl, hx2.trans (hx3.trans ((hxi.alloc _).trans x5))⟩
            · rw [hb] at HIS
              have HBt := Lib.hid hb; clear hb hea HEA
              go_wp2_with fail
              refine (HIS.out _).mono ?_
              rintro e w5 ⟨rfl, x5⟩
              go_wp2
              go_roundw
              case rel => exact ⟨q + 1, val_int (by omega), by omega, (hxi.alloc _).trans x5, fun q' hq' hlt hn' => by
                rcases Nat.lt_succ_iff_lt_or_eq.1 hlt with h | rfl
                · exact HGI.out q' hq' h hn'
                · rw [Hsq.out]; exact HBt.out⟩
              case measure => simp [intOf]; omega
          · have g1 := beq_f (fun h => hnm h.symm)
            have Hnm := Lib.hid hnm; clear hnm hlk
            go_wp2
            go_roundw
            case rel => exact ⟨q + 1, val_int (by omega), by omega, hxi.alloc _, fun q' hq' hlt hn' => by
              rcases Nat.lt_succ_iff_lt_or_eq.1 hlt with h | rfl
              · exact HGI.out q' hq' h hn'
              · rw [Hsq.out] at hn'; exact absurd hn' Hnm.out⟩
            case measure => simp [intOf]; omega
        · obtain rfl : N = q := by omega
          go_wp2_with fail
          refine ⟨⟨j + 1, val_int (by omega), by omega, hT3'.ext hxi, hx3.trans hxi, fun i hi hlt q hq hn' => ?_⟩, by simp [intOf]; omega⟩
          rcases Nat.lt_succ_iff_lt_or_eq.1 hlt with h | rfl
          · exact HG.out i hi h q hq hn'
          · have hfj := Hfj.out
            rw [hfj] at hn' ⊢
            rw [Htv.out]
            exact HGI.out q hq (by rw [← HN.out]; exact hq) hn'
    · obtain rfl : n = j := by omega
      have hTn : TM wo w2.heap.size n (fun k => cnt k l) := hT.to (Nat.le_refl _) (by funext k; rw [List.take_of_length_le (by omega)])
      clear hT
      go_wp2
      go_loopw [64] (fun i wr => ∃ q : Nat, i = .int .i64 q ∧ q ≤ N ∧ Ext wo wr ∧ (∀ q' (hq' : q' < S.length), q' < q → S[q'].need = true → 0 < cnt S[q'].num l)) (fun i _ => N - (intOf i).toNat)
      case atStart => exact ⟨0, rfl, by omega, Ext.refl _, fun q' _ h => absurd h (by omega)⟩
      case round =>
        obtain ⟨q, rfl, hq, hxi, hgi⟩ := hrel
        have HGI := Lib.hid hgi; clear hgi
        by_cases hqn : q < N
        · have hqS : q < S.length := by rw [HN.out]; exact hqn
          obtain ⟨sb, soff, rfl, e0, e1, e2, e3, e4⟩ := (hSs2.ext (hx.trans hxi)).at_ hqn
          have hsn10 := HNum.out S[q] (List.getElem_mem _)
          have hnd := ok_need (S := S) (l := l) (s := S[q]'(by rw [HN.out]; exact hqn)) (List.getElem_mem _)
          have hlk := (((hTn.ext hxi).alloc_ (.cells #[.int .i64 S[q].num, .int .i64 S[q].wire, .int .i64 S[q].since, .bool S[q].need, .bool S[q].many] 60)).look S[q].num (by omega) (by omega))
          obtain ⟨s, hsq⟩ : ∃ s, S[q]'hqS = s := ⟨_, rfl⟩
          simp only [hsq] at hsn10 hnd hlk e0 e1 e2 e3 e4
          have Hsq := Lib.hid hsq; clear hsq
          obtain ⟨sn, sw, ss, need, many⟩ := s
          dsimp only at hsn10 hnd hlk e0 e1 e2 e3 e4
          have HND := Lib.hid hnd; clear hnd
          rcases need with _ | _
          · clear hlk
            go_wp2
            go_roundw
            case rel => exact ⟨q + 1, val_int (by omega), by omega, hxi.alloc _, fun q' hq' hlt hn' => by
              rcases Nat.lt_succ_iff_lt_or_eq.1 hlt with h | rfl
              · exact HGI.out q' hq' h hn'
              · rw [Hsq.out] at hn'; cases hn'⟩
            case measure => simp [intOf]; omega
          · by_cases hc : cnt (sn : Int) l = 0
            · have hf0 := HND.out rfl hc
              have HF := Lib.hid hf0; clear hf0
              rw [hc] at hlk
              clear hc
              go_wp2
              go_ret
              exact ⟨by rw [HCN.out, HF.out]; rfl, hx2.trans (hx.trans (hxi.alloc _))⟩
            · have g1 := beq_f (show ((cnt (sn : Int) l : Nat) : Int) ≠ 0 by omega)
              have Hc := Lib.hid hc; clear hc
              go_wp2
              go_roundw
              case rel => exact ⟨q + 1, val_int (by omega), by omega, hxi.alloc _, fun q' hq' hlt hn' => by
                rcases Nat.lt_succ_iff_lt_or_eq.1 hlt with h | rfl
                · exact HGI.out q' hq' h hn'
                · rw [Hsq.out]; have := Hc.out; dsimp only; omega⟩
              case measure => simp [intOf]; omega
        · obtain rfl : N = q := by omega
          go_wp2
          go_ret
          have hok : okB S l = true := ok_all (fun j hj q hq hn' => HG.out j hj (by omega) q hq hn') (fun q hq hn' => HGI.out q hq (by rw [← HN.out]; exact hq) hn')
          exact ⟨by rw [HCN.out, hok]; rfl, hx2.trans (hx.trans hxi)⟩
end Go.Proofs.Ytjfohlnkdagjcaa
