/- Words and walks that the last text of this claim stands on: LpP, LpS, LpH, LpO, LpX. No condition. -/
import Derived.Test.YtcoaofaofmbfbaaB10
import Derived.Test.YtcoaofaofmbfbaaB11
import Derived.Test.YtcoaofaofmbfbaaB09
import Derived.Test.YtcoaofaofmbfbaaB04
import Derived.BigGuardPart
import Derived.Test.YtcoaofaofmbfbaaB07
/- The walk of letter.Put. -/
namespace Go.Proofs.Ytcoaofaofmbfbaa
open Go.RowKit

theorem numF_own {w : World} {B : Nat} {v : Value} {l : List Int} (h : w.ownsRow B 75 4 v (numF 1 l).length (rowOf (numF 1 l))) (hl : ∀ x ∈ l, 0 ≤ x ∧ x ≤ 4611686018427387904) : OwnR w B v (numF 1 l) :=
  ⟨h, fun f hf => by
    obtain ⟨i, hi, _, rfl⟩ := numF_mem l 1 f hf
    have := hl l[i] (List.getElem_mem _)
    exact ⟨World.ownsRow_nil _ _ _ _, by simp only [tfv, U64]; omega⟩⟩
theorem low_snoc (l : List FV) (j : Nat) (h : j < l.length) : lowB (l.take (j + 1)) = (lowB (l.take j) || decide (l[j].num ≤ 10)) := by
  unfold lowB
  rw [List.take_succ_eq_append_getElem h, List.any_append]
  simp only [List.any_cons, List.any_nil, Bool.or_false]
theorem low_all {l : List FV} (h : lowB l = false) : ∀ f ∈ l, 10 < f.num := by
  intro f hf
  have := List.any_eq_false.1 h f hf
  simpa using this
theorem top6 : topL (specL 6 1) = 10 := by decide
set_option maxRecDepth 100000 in
set_option maxHeartbeats 800000 in
theorem letter_Put_bad (x : LV) (A : Option Addr) (n c : Nat) (w : World) (hx : x.Ok w) (hn : x.n ≤ 20000) (hm : mayB x = false) :
    Calls Try.prog 15 #[x.val, .slice A n c] w fun e w' => e = .returned (.tuple #[.slice none 0 0, .int .i64 1]) ∧ Ext w w' := by
  have HM := Lib.hid (fun (W : World) (h : Ext w W) => letter_May x W (hx.ext h) hn)
  rw [mayR_f hm] at HM
  unfold LV.val at HM ⊢
  clear hm hx
  go_enter Try.func15, Try.ntmps15
  go_wp2_with fail
  refine (HM.out _ ((Ext.refl w).alloc _)).mono ?_
  rintro e w1 ⟨rfl, x1⟩
  have xw1 := ((Ext.refl w).alloc _).trans x1
  clear HM
  go_wp2_with fail
  go_ret2
  exact ⟨rfl, xw1⟩
set_option maxRecDepth 100000 in
set_option maxHeartbeats 800000 in
theorem letter_Put_low (x : LV) (A : Option Addr) (n c : Nat) (rest : List FV) (w : World) (hx : x.Ok w) (hxn : x.n ≤ 20000) (hm : mayB x = true) (hf : Fs w A n rest) (hn : n ≤ 19000) (hl : lowB rest = true) :
    Calls Try.prog 15 #[x.val, .slice A n c] w fun e w' => e = .returned (.tuple #[.slice none 0 0, .int .i64 6]) ∧ Ext w w' := by
  have HM := Lib.hid (fun (W : World) (h : Ext w W) => letter_May x W (hx.ext h) hxn)
  rw [mayR_t hm] at HM
  have hlen := hf.len
  have HL := Lib.hid hl
  have HT := Lib.hid top6
  unfold LV.val at HM ⊢
  clear hm hx hl
  go_enter Try.func15, Try.ntmps15
  go_wp2_with fail
  refine (HM.out _ ((Ext.refl w).alloc _)).mono ?_
  rintro e w1 ⟨rfl, x1⟩
  have xw1 := ((Ext.refl w).alloc _).trans x1
  clear HM x1
  go_wp2_with fail
  refine (forms_Top 6 1 _).mono ?_
  rintro e w2 ⟨rfl, x2⟩
  rw [HT.out]
  have xw2 := xw1.trans x2
  clear xw1 x2 HT
  go_wp2_with fail
  go_loopw [24] (fun i wr => ∃ j : Nat, i = .int .i64 j ∧ j ≤ n ∧ Hid (lowB (rest.take j) = false) ∧ Ext w wr) (fun i _ => n - (intOf i).toNat)
  case atStart => exact ⟨0, rfl, by omega, Lib.hid rfl, xw2⟩
  case round =>
    clear xw2
    obtain ⟨j, rfl, hj, HJ, hxr⟩ := hrel
    by_cases hjn : j < n
    · have hjl : j < rest.length := by omega
      obtain ⟨b, off, rfl, hc0, hc1, hc2, hc3⟩ := (hf.ext hxr).at_ hjn
      have Hsn := Lib.hid (low_snoc rest j hjl)
      generalize rest[j] = f at *
      have hj0 : (0 : Int) ≤ j := by omega
      have hj1 : (j : Int) < n := by omega
      by_cases h10 : f.num ≤ 10
      · go_wp2_with fail
        go_ret2
        exact ⟨rfl, hxr.alloc _⟩
      · have h10' : 10 < f.num := by omega
        have H10 := Lib.hid h10
        clear h10
        go_wp2_with fail
        go_roundw
        case rel => exact ⟨j + 1, val_int (by omega), by omega, Lib.hid (by rw [Hsn.out, HJ.out]; simpa using H10.out), hxr.alloc _⟩
        case measure => simp [intOf]; omega
    · exfalso
      have e := HJ.out
      rw [List.take_of_length_le (by omega), HL.out] at e
      cases e

/-- the fields of a letter's entries -/
def many (l : List EV) : List FV := l.map fun y => tfv 10 2 0 (rput (entF y))
theorem many_take (l : List EV) (j : Nat) (h : j < l.length) : many (l.take (j + 1)) = many (l.take j) ++ [tfv 10 2 0 (rput (entF l[j]))] := by
  unfold many
  rw [List.take_succ_eq_append_getElem h, List.map_append]; rfl
theorem is_letN (w : World) (kind src dst term bin la lb lc z : Int) (t : TypeId) (k : Nat) (hk : k = w.heap.size) : Is (w.alloc (.cells #[.int .i64 kind, .int .i64 (src + 1), .int .i64 (dst + 1), .int .i64 term, .int .i64 bin, .int .i64 la, .int .i64 lb, .int .i64 lc, .int .i64 z] t)) (some ⟨k, 0, none⟩) 9 [kind, src + 1, dst + 1, term, bin, la, lb, lc, z] := is_lit w _ _ t 9 k rfl rfl hk
set_option maxRecDepth 100000 in
set_option maxHeartbeats 1600000 in
theorem letter_Put_ok (x : LV) (A' : Option Addr) (m c' : Nat) (rest : List FV) (w : World) (hx : x.Ok w) (hxn : x.n ≤ 20000) (hm : mayB x = true) (hf : Fs w A' m rest) (hn : m ≤ 19000) (hl : lowB rest = false) :
    Calls Try.prog 15 #[x.val, .slice A' m c'] w fun e w' => ∃ v, e = .returned (.tuple #[v, .int .i64 (lput x rest).2]) ∧ w'.ownsRow w.heap.size 5 1 v (lput x rest).1.length ((lput x rest).1.map bv) ∧ Ext w w' := by
  have HP : Hid (lput x rest = if fmay (numF 1 (letN x) ++ many x.l ++ rest) = 0 then (rput (numF 1 (letN x) ++ many x.l ++ rest), 0) else ([], fmay (numF 1 (letN x) ++ many x.l ++ rest))) := Lib.hid (by
    unfold lput; rw [if_neg (by simp [hm]), if_neg (by simp [hl])]; rfl)
  rw [show (lput x rest) = (lput x rest) from rfl]
  have hbd := letN_bd hm
  obtain ⟨_, p2, p3, _, p4, p5, p6, p7, p8, p9, p10⟩ := mayB_parts hm
  have hent := entsB_ok p10 (fun y hy => (hx.es.ok y hy).bs.len)
  have HM := Lib.hid (fun (W : World) (h : Ext w W) => letter_May x W (hx.ext h) hxn)
  rw [mayR_t hm] at HM
  have hlen := hf.len
  have hes := hx.es
  have hle := hes.len
  have hall := low_all hl
  have HT := Lib.hid top6
  clear hm hx hl p10
  generalize lput x rest = LP at *
  obtain ⟨kind, src, dst, term, la, lb, lc, bin, ok, A, n, cp, l⟩ := x
  unfold LV.val at HM ⊢
  dsimp only [letN] at HM HP hbd p2 p3 p4 p5 p6 p7 p8 p9 hent hes hle ⊢
  have hB := Blk.new w 26 [.int .i64 kind, .int .i64 src, .int .i64 dst, .int .i64 term, .int .i64 la, .int .i64 lb, .int .i64 lc, .int .i64 bin, .bool ok, .slice A n cp]
  have hx0 : Ext w (w.alloc (.cells #[.int .i64 kind, .int .i64 src, .int .i64 dst, .int .i64 term, .int .i64 la, .int .i64 lb, .int .i64 lc, .int .i64 bin, .bool ok, .slice A n cp] 26)) := (Ext.refl w).alloc _
  have HBD := Lib.hid hbd
  clear hbd
  go_enter Try.func15, Try.ntmps15
  go_wp2_with fail
  refine (HM.out _ hx0).mono ?_
  rintro e w1 ⟨rfl, x1⟩
  have xw1 := hx0.trans x1
  replace hB := hB.ext x1
  clear HM x1 hx0
  go_wp2_with fail
  refine (forms_Top 6 1 _).mono ?_
  rintro e w2 ⟨rfl, x2⟩
  rw [HT.out]
  have xw2 := xw1.trans x2
  replace hB := hB.ext x2
  clear xw1 x2 HT
  have HB := Lib.hid hB
  clear hB
  go_wp2_with fail
  go_loopw [24] (fun i wr => ∃ j : Nat, i = .int .i64 j ∧ j ≤ m ∧ Ext w wr ∧ Blk wr w.heap.size 26 [.int .i64 kind, .int .i64 src, .int .i64 dst, .int .i64 term, .int .i64 la, .int .i64 lb, .int .i64 lc, .int .i64 bin, .bool ok, .slice A n cp]) (fun i _ => m - (intOf i).toNat)
  case atStart => exact ⟨0, rfl, by omega, xw2, HB.out⟩
  case round =>
    clear xw2 HB
    obtain ⟨j, rfl, hj, hxr, hB⟩ := hrel
    by_cases hjn : j < m
    · have hjl : j < rest.length := by omega
      obtain ⟨b, off, rfl, hc0, hc1, hc2, hc3⟩ := (hf.ext hxr).at_ hjn
      have h10 := hall rest[j] (List.getElem_mem _)
      generalize rest[j] = f at *
      have hj0 : (0 : Int) ≤ j := by omega
      have hj1 : (j : Int) < m := by omega
      go_wp2_with fail
      go_roundw
      case rel => exact ⟨j + 1, val_int (by omega), by omega, hxr.alloc _, hB.alloc _⟩
      case measure => simp [intOf]; omega
    · obtain rfl : m = j := by omega
      have d0 := hB.cell 0
      have d1 := hB.cell 1
      have d2 := hB.cell 2
      have d3 := hB.cell 3
      have d4 := hB.cell 4
      have d5 := hB.cell 5
      have d6 := hB.cell 6
      have d7 := hB.cell 7
      have d8 := hB.cell 8
      simp only [List.getElem?_cons_zero, List.getElem?_cons_succ] at d0 d1 d2 d3 d4 d5 d6 d7 d8
      have HB := Lib.hid hB
      obtain ⟨wo, rfl⟩ : ∃ wo : World, wo = wr := ⟨_, rfl⟩
      clear hB
      rcases ok with _ | _
      all_goals
        simp only [if_true, if_false, Bool.false_eq_true] at HBD HP
        go_wp2_with fail
        refine (letter_numbers _ _ _ _ _ (is_letN _ kind src dst term bin la lb lc _ _ _ (by simp)) (by omega) HBD.out).mono ?_
        rintro e w3 ⟨v3, rfl, hown3, x3⟩
        have x3' := ((Ext.refl wo).alloc _).trans x3
        have hR0 := Lib.hid ((numF_own hown3 HBD.out).to (B' := w.heap.size) (by have := hxr.size; simp; omega))
        have hx3 := hxr.trans x3'
        have hB := HB.out.ext x3'
        have d9 := hB.cell 9
        simp only [List.getElem?_cons_zero, List.getElem?_cons_succ] at d9
        have HB3 := Lib.hid hB
        have HH := Lib.hid hx3
        obtain ⟨N, hN9, HQ, hR⟩ : ∃ N : List FV, N.length ≤ 9 ∧ Hid (LP = if fmay (N ++ many l ++ rest) = 0 then (rput (N ++ many l ++ rest), 0) else ([], fmay (N ++ many l ++ rest))) ∧ OwnR w3 w.heap.size v3 N := ⟨_, numF_len _ 1, HP, hR0.out⟩
        have hRR := Lib.hid hR
        clear d0 d1 d2 d3 d4 d5 d6 d7 d8 hB hown3 x3 x3' HB hxr hx3 hR0 HP HBD hR HB3
        go_wp2_with fail
        go_loopw [11, 59] (fun v i wr => ∃ j : Nat, i = .int .i64 j ∧ j ≤ n ∧ (∃ d : List FV, d.map FV.s = (N ++ many (l.take j)).map FV.s ∧ OwnR wr w.heap.size v d) ∧ Ext w wr) (fun _ i _ => n - (intOf i).toNat)
        case atStart => exact ⟨0, rfl, by omega, ⟨N, by simp [many], hRR.out⟩, HH.out⟩
        case round =>
          clear HH hRR d9
          obtain ⟨j, rfl, hj, ⟨d, hds, hR⟩, hx⟩ := hrel
          obtain ⟨v11, rfl⟩ : ∃ v11 : Value, v11 = u11 := ⟨_, rfl⟩
          have hdl : d.length = N.length + (many (l.take j)).length := by have := congrArg List.length hds; simpa using this
          have hmj : (many (l.take j)).length ≤ 900 := by unfold many; rw [List.length_map, List.length_take]; omega
          have HDS := Lib.hid hds
          have hd2 : d.length ≤ 909 := by omega
          clear hds hdl hmj
          by_cases hjn : j < n
          · have hjl : j < l.length := by omega
            obtain ⟨b, off, rfl, hc0, hc1⟩ := (hes.ext hx).at_ hjn
            have hyok := (hes.ext hx).ok l[j] (List.getElem_mem _)
            have hye := hent l[j] (List.getElem_mem _)
            have Hsn := Lib.hid (many_take l j hjl)
            generalize l[j] = y at *
            have hj0 : (0 : Int) ≤ j := by omega
            have hj1 : (j : Int) < n := by omega
            have HE := Lib.hid hye
            have HY := Lib.hid hyok
            clear hye hyok
            go_wp2_with fail
            refine (letter_putEntry y _ (HY.out.ext ((Ext.refl wr).alloc _)) HE.out).mono ?_
            rintro e w4 ⟨v4, rfl, hown4, x4⟩
            have h224 := (ent_may HE.out).2
            generalize rput (entF y) = bs at *
            obtain ⟨A4, c4, rfl, _⟩ := own_form hown4
            have x4' := ((Ext.refl wr).alloc _).trans x4
            have hR4 := hR.ext x4'
            have hx4 := hx.trans x4'
            have hf4 : OwnF w4 w.heap.size ⟨10, 2, 0, A4, bs.length, c4, bs⟩ := ⟨own_base hown4 (by have := hx.size; simp; omega), show (0 : Nat) < 18446744073709551616 by decide⟩
            have hsz4 := hx4.size
            clear hown4 x4 x4' hR hc0 hc1
            go_wp2_with (at_builtin; refine wpList_app fieldsT (by omega) _ rfl rfl rfl (hR4.row.alloc _) rfl (rd_at4 _ (.int .i64 10) (.int .i64 2) (.int .u64 0) (.slice A4 bs.length c4) _ _ (by simp)) (fcells_one 10 2 0 _ _ _) (by unfold maxLen; omega) (by omega) (by simp; omega) ?_; intro v5 w5 hown5 hg5 hat5)
            have x5 := Below.app (hx4.alloc _) hg5 (by simp; omega) (hR4.row.alloc _) (Nat.le_refl _)
            have hR5 := (hR4.ext ((Ext.refl w4).alloc _)).app (hf4.ext ((Ext.refl w4).alloc _)) hg5 hown5
            go_roundw
            case rel => exact ⟨j + 1, val_int (by omega), by omega, ⟨_, by rw [List.map_append, HDS.out, Hsn.out, ← List.append_assoc, List.map_append (l₂ := [tfv 10 2 0 bs])]; rfl, hR5⟩, x5⟩
            case measure => simp [intOf]; omega
          · obtain rfl : n = j := by omega
            have HDS2 : Hid (d.map FV.s = (N ++ many l).map FV.s) := Lib.hid (by rw [HDS.out, List.take_of_length_le (by omega)])
            have hfr := hf.ext hx
            go_wp2_with (at_builtin; refine wpList_app fieldsT (by omega) _ rfl rfl rfl hR.row rfl hfr.rd (rowOf_cells _) (by unfold maxLen; omega) (by omega) hx.size ?_; intro v5 w5 hown5 hg5 hat5; have x5 := Below.app hx hg5 hx.size hR.row (Nat.le_refl _); obtain ⟨A5, c5, rfl, _⟩ := own_form hown5)
            have hfs : Fs w5 A5 (d.length + m) (d ++ rest) := by
              refine Fs.of_own (own_to hown5 (Nat.le_refl _) rfl (by rw [rowOf_append])) ?_
              intro g hg
              rcases List.mem_append.1 hg with hg | hg
              · exact ((hR.own g hg).grown hR.row hg5).ok
              · exact (hf.ok g hg).ext x5
            have hs : (d ++ rest).map FV.s = (N ++ many l ++ rest).map FV.s := by
              rw [List.map_append, HDS2.out, ← List.map_append]
            have h1 := s_may hs
            have h2 := s_rput hs
            have HQ2 := HQ.out
            rw [← h1, ← h2] at HQ2
            have HQ3 := Lib.hid HQ2
            have Hlen : (d ++ rest).length ≤ 20000 := by rw [List.length_append]; omega
            clear hs h1 h2 HQ2 HQ hown5 hg5 hat5 hR
            generalize d ++ rest = D at *
            by_cases hz : fmay D = 0
            · have HZ := Lib.hid hz
              clear hz
              refine (tlv_Put_ok _ _ _ D _ hfs (by omega) HZ.out).mono ?_
              rintro e w6 ⟨v6, rfl, hown6, x6⟩
              go_wp2
              go_ret2
              rw [HQ3.out, if_pos HZ.out]
              exact ⟨_, rfl, own_base hown6 x5.size, Ext.trans x5 x6⟩
            · have HZ := Lib.hid hz
              clear hz
              refine (tlv_Put_no _ _ _ D _ hfs (by omega) HZ.out).mono ?_
              rintro e w6 ⟨rfl, x6⟩
              go_wp2
              go_ret2
              rw [HQ3.out, if_neg HZ.out]
              exact ⟨_, rfl, World.ownsRow_nil _ _ _ _, Ext.trans x5 x6⟩
theorem letter_Put (x : LV) (A' : Option Addr) (m c' : Nat) (rest : List FV) (w : World) (hx : x.Ok w) (hxn : x.n ≤ 20000) (hf : Fs w A' m rest) (hn : m ≤ 19000) :
    Calls Try.prog 15 #[x.val, .slice A' m c'] w fun e w' => ∃ v, e = .returned (.tuple #[v, .int .i64 (lput x rest).2]) ∧ w'.ownsRow w.heap.size 5 1 v (lput x rest).1.length ((lput x rest).1.map bv) ∧ Ext w w' := by
  by_cases hm : mayB x = true
  · by_cases hl : lowB rest = true
    · have e : lput x rest = ([], 6) := by unfold lput; rw [if_neg (by simp [hm]), if_pos hl]
      rw [e]
      exact (letter_Put_low x A' m c' rest w hx hxn hm hf hn hl).mono fun e w' ⟨h1, h2⟩ => ⟨_, h1, World.ownsRow_nil _ _ _ _, h2⟩
    · exact letter_Put_ok x A' m c' rest w hx hxn hm hf hn (by simpa using hl)
  · have hm' : mayB x = false := by simpa using hm
    have e : lput x rest = ([], 1) := by unfold lput; rw [if_pos hm']
    rw [e]
    exact (letter_Put_bad x A' m c' w hx hxn hm').mono fun e w' ⟨h1, h2⟩ => ⟨_, h1, World.ownsRow_nil _ _ _ _, h2⟩
end Go.Proofs.Ytcoaofaofmbfbaa

/- The walks of bytes.Equal, slices.EqualFunc at entries, and letter.Same. (Printed by wip/tools/lpsame.py.) -/
namespace Go.Proofs.Ytcoaofaofmbfbaa
open Go.RowKit

set_option maxRecDepth 100000 in
set_option maxHeartbeats 400000 in
theorem bytes_Equal (A A' : Option Addr) (n n' c c' : Nat) (l m : List UInt8) (b : Bool) (hb : decide (l = m) = b) (w : World) (h1 : Bs w A n l) (h2 : Bs w A' n' m) :
    Calls Try.prog 50 #[.slice A n c, .slice A' n' c'] w fun e w' => e = .returned (.bool b) ∧ w = w' := by
  have s1 := run_str (P := Try.prog) (dst := 9) Try.underlying29 Try.underlying5 Try.underlying9 h1 c
  have s2 := run_str (P := Try.prog) (dst := 9) Try.underlying29 Try.underlying5 Try.underlying9 h2 c'
  have he : ((bstr l).toList == (bstr m).toList) = b := by
    rw [bstr_list, bstr_list, ← hb]
    by_cases e : l = m
    · subst e; simp
    · rw [decide_eq_false e]; simpa using e
  clear hb h1 h2
  generalize bstr l = p at *
  generalize bstr m = q at *
  go_enter Try.func50, Try.ntmps50
  go_wp2
  go_ret
  exact ⟨rfl, rfl⟩
set_option maxRecDepth 100000 in
set_option maxHeartbeats 400000 in
theorem letter_Same1 (f g : EV) (b : Bool) (hb : (decide (f.term = g.term) && decide (f.b = g.b)) = b) (w : World) (hf : f.Ok w) (hg : g.Ok w) :
    Calls Try.prog 49 #[.agg #[.int .i64 f.term, .slice f.A f.len f.cap], .agg #[.int .i64 g.term, .slice g.A g.len g.cap]] w fun e w' => e = .returned (.bool b) ∧ Ext w w' := by
  have hb1 := hf.bs
  have hb2 := hg.bs
  obtain ⟨t, A, n, c, l⟩ := f
  obtain ⟨t', A', n', c', l'⟩ := g
  dsimp only at hb hb1 hb2 ⊢
  clear hf hg
  by_cases ht : t = t'
  · subst ht
    rw [dec_t rfl, Bool.true_and] at hb
    have HE := Lib.hid (fun (W : World) (h : Ext w W) => bytes_Equal A A' n n' c c' l l' b hb W (hb1.ext h) (hb2.ext h))
    have z := beq_t (show t = t from rfl)
    clear hb hb1 hb2
    go_enter Try.func49, Try.ntmps49
    go_wp2_with fail
    refine (HE.out _ (((Ext.refl w).alloc _).alloc _)).mono ?_
    rintro e w' ⟨rfl, rfl⟩
    go_wp2
    go_ret
    exact ⟨rfl, ((Ext.refl w).alloc _).alloc _⟩
  · have hf : b = false := by rw [← hb, dec_f ht]; rfl
    subst hf
    have z := beq_f ht
    clear hb hb1 hb2 ht
    go_enter Try.func49, Try.ntmps49
    go_wp2
    go_ret
    exact ⟨rfl, ((Ext.refl w).alloc _).alloc _⟩
set_option maxRecDepth 100000 in
set_option maxHeartbeats 800000 in
theorem ents_EqualFunc (A A' : Option Addr) (n n' c c' : Nat) (l m : List EV) (b : Bool) (hb : entEq l m = b) (w : World) (h1 : Es w A n l) (h2 : Es w A' n' m) (hn : n ≤ 1000000) (hn' : n' ≤ 1000000) :
    Calls Try.prog 48 #[.slice A n c, .slice A' n' c', .func (.func 49) #[] #[]] w fun e w' => e = .returned (.bool b) ∧ Ext w w' := by
  have hlen1 := h1.len
  have hlen2 := h2.len
  by_cases hnn : n = n'
  case neg =>
    have hf : b = false := by rw [← hb]; exact entEq_len (by omega)
    subst hf
    have hk := bne_t (show ((n : Nat) : Int) ≠ n' by omega)
    clear hb h1 h2 hlen1 hlen2
    go_enter Try.func48, Try.ntmps48
    go_wp2
    go_ret
    exact ⟨rfl, Ext.refl w⟩
  subst hnn
  have Hb := Lib.hid hb
  clear hb
  go_enter Try.func48, Try.ntmps48
  go_wp2_with fail
  go_loopw [17] (fun i wr => ∃ j : Nat, i = .int .i64 j ∧ j ≤ n ∧ b = entEq (l.drop j) (m.drop j) ∧ Ext w wr) (fun i _ => n - (intOf i).toNat)
  case atStart => exact ⟨0, rfl, by omega, Hb.out.symm, Ext.refl w⟩
  case round =>
    obtain ⟨j, rfl, hj, hpre, hx⟩ := hrel
    by_cases hjn : j < n
    · have hjl : j < l.length := by omega
      have hjm : j < m.length := by omega
      obtain ⟨bb, off, rfl, c0, c1⟩ := (h1.ext hx).at_ hjn
      obtain ⟨bb', off', rfl, d0', d1'⟩ := (h2.ext hx).at_ hjn
      have ok1 : EV.Ok l[j] wr := (h1.ext hx).ok l[j] (List.getElem_mem _)
      have ok2 : EV.Ok m[j] wr := (h2.ext hx).ok m[j] (List.getElem_mem _)
      rw [List.drop_eq_getElem_cons hjl, List.drop_eq_getElem_cons hjm, entEq_cons, ← Bool.and_assoc] at hpre
      generalize l[j] = f at *
      generalize m[j] = g at *
      have xa : Ext wr (wr.alloc (.cells #[.int .i64 f.term, .slice f.A f.len f.cap] 31)) := (Ext.refl wr).alloc _
      have d0 := xa.cell d0'
      have d1 := xa.cell d1'
      have hj0 : (0 : Int) ≤ j := by omega
      have hj1 : (j : Int) < n := by omega
      have xb := xa.alloc (.cells #[.int .i64 g.term, .slice g.A g.len g.cap] 31)
      have HE := Lib.hid (fun b hb => letter_Same1 f g b hb _ (ok1.ext xb) (ok2.ext xb))
      clear d0' d1' ok1 ok2
      rcases he : (decide (f.term = g.term) && decide (f.b = g.b)) with _ | _
      · rw [he, Bool.false_and] at hpre
        subst hpre
        have HE2 := Lib.hid (HE.out _ he)
        clear HE he Hb
        go_wp2_with (first
          | (refine wpList_named 49 (by rfl) ?_)
          | (go_at_call 49; refine HE2.out.mono ?_; rintro e w1 ⟨rfl, y1⟩))
        go_ret
        exact ⟨rfl, (hx.trans xb).trans y1⟩
      · rw [he, Bool.true_and] at hpre
        have HP := Lib.hid hpre
        have HE2 := Lib.hid (HE.out _ he)
        clear HE he hpre
        go_wp2_with (first
          | (refine wpList_named 49 (by rfl) ?_)
          | (go_at_call 49; refine HE2.out.mono ?_; rintro e w1 ⟨rfl, y1⟩))
        go_roundw
        case rel => exact ⟨j + 1, val_int (by omega), by omega, HP.out, (hx.trans xb).trans y1⟩
        case measure => simp [intOf]; omega
    · obtain rfl : n = j := by omega
      rw [List.drop_of_length_le (by omega), List.drop_of_length_le (by omega)] at hpre
      have HP : Hid (b = true) := Lib.hid hpre
      clear hpre
      go_wp2
      go_ret
      exact ⟨by rw [HP.out] <;> rfl, hx⟩
set_option maxRecDepth 100000 in
set_option maxHeartbeats 3200000 in
theorem letter_Same (x y : LV) (b : Bool) (hb : letEq x y = b) (w : World) (hx : x.Ok w) (hy : y.Ok w) (hn : x.n ≤ 1000000) (hn' : y.n ≤ 1000000) :
    Calls Try.prog 16 #[x.val, y.val] w fun e w' => e = .returned (.bool b) ∧ Ext w w' := by
  have e1 := hx.es
  have e2 := hy.es
  clear hx hy
  obtain ⟨k1, s1, d1, t1, a1, b1, c1, v1, o1, A1, n1, q1, l1⟩ := x
  obtain ⟨k2, s2, d2, t2, a2, b2, c2, v2, o2, A2, n2, q2, l2⟩ := y
  unfold LV.val
  unfold letEq at hb
  dsimp only at hb e1 e2 hn hn' ⊢
  have xa : Ext w ((w.alloc (.cells #[.int .i64 k1, .int .i64 s1, .int .i64 d1, .int .i64 t1, .int .i64 a1, .int .i64 b1, .int .i64 c1, .int .i64 v1, .bool o1, .slice A1 n1 q1] 26)).alloc (.cells #[.int .i64 k2, .int .i64 s2, .int .i64 d2, .int .i64 t2, .int .i64 a2, .int .i64 b2, .int .i64 c2, .int .i64 v2, .bool o2, .slice A2 n2 q2] 26)) := ((Ext.refl w).alloc _).alloc _
  by_cases ggk : k1 = k2
  case neg =>
    have hf : b = false := by rw [← hb, dec_f ggk]; simp only [Bool.false_and]
    subst hf
    have z := bne_t ggk
    clear ggk hb e1 e2
    go_enter Try.func16, Try.ntmps16
    go_wp2
    go_ret
    exact ⟨rfl, xa⟩
  rw [dec_t ggk, Bool.true_and] at hb
  subst ggk
  by_cases ggs : s1 = s2
  case neg =>
    have hf : b = false := by rw [← hb, dec_f ggs]; simp only [Bool.false_and]
    subst hf
    have z := bne_t ggs
    clear ggs hb e1 e2
    go_enter Try.func16, Try.ntmps16
    go_wp2
    go_ret
    exact ⟨rfl, xa⟩
  rw [dec_t ggs, Bool.true_and] at hb
  subst ggs
  by_cases ggd : d1 = d2
  case neg =>
    have hf : b = false := by rw [← hb, dec_f ggd]; simp only [Bool.false_and]
    subst hf
    have z := bne_t ggd
    clear ggd hb e1 e2
    go_enter Try.func16, Try.ntmps16
    go_wp2
    go_ret
    exact ⟨rfl, xa⟩
  rw [dec_t ggd, Bool.true_and] at hb
  subst ggd
  by_cases ggt : t1 = t2
  case neg =>
    have hf : b = false := by rw [← hb, dec_f ggt]; simp only [Bool.false_and]
    subst hf
    have z := bne_t ggt
    clear ggt hb e1 e2
    go_enter Try.func16, Try.ntmps16
    go_wp2
    go_ret
    exact ⟨rfl, xa⟩
  rw [dec_t ggt, Bool.true_and] at hb
  subst ggt
  by_cases ggv : v1 = v2
  case neg =>
    have hf : b = false := by rw [← hb, dec_f ggv]; simp only [Bool.false_and]
    subst hf
    have z := bne_t ggv
    clear ggv hb e1 e2
    go_enter Try.func16, Try.ntmps16
    go_wp2
    go_ret
    exact ⟨rfl, xa⟩
  rw [dec_t ggv, Bool.true_and] at hb
  subst ggv
  by_cases gga : a1 = a2
  case neg =>
    have hf : b = false := by rw [← hb, dec_f gga]; simp only [Bool.false_and]
    subst hf
    have z := bne_t gga
    clear gga hb e1 e2
    go_enter Try.func16, Try.ntmps16
    go_wp2
    go_ret
    exact ⟨rfl, xa⟩
  rw [dec_t gga, Bool.true_and] at hb
  subst gga
  by_cases ggb : b1 = b2
  case neg =>
    have hf : b = false := by rw [← hb, dec_f ggb]; simp only [Bool.false_and]
    subst hf
    have z := bne_t ggb
    clear ggb hb e1 e2
    go_enter Try.func16, Try.ntmps16
    go_wp2
    go_ret
    exact ⟨rfl, xa⟩
  rw [dec_t ggb, Bool.true_and] at hb
  subst ggb
  by_cases ggc : c1 = c2
  case neg =>
    have hf : b = false := by rw [← hb, dec_f ggc]; simp only [Bool.false_and]
    subst hf
    have z := bne_t ggc
    clear ggc hb e1 e2
    go_enter Try.func16, Try.ntmps16
    go_wp2
    go_ret
    exact ⟨rfl, xa⟩
  rw [dec_t ggc, Bool.true_and] at hb
  subst ggc
  by_cases ho : o1 = o2
  case neg =>
    have hf : b = false := by rw [← hb, dec_f ho]; simp only [Bool.false_and]
    subst hf
    clear hb e1 e2
    rcases o1 with _ | _ <;> rcases o2 with _ | _
    · exact absurd rfl ho
    · clear ho
      go_enter Try.func16, Try.ntmps16
      go_wp2
      go_ret
      exact ⟨rfl, xa⟩
    · clear ho
      go_enter Try.func16, Try.ntmps16
      go_wp2
      go_ret
      exact ⟨rfl, xa⟩
    · exact absurd rfl ho
  rw [dec_t ho, Bool.true_and] at hb
  subst ho
  have HE := Lib.hid (ents_EqualFunc A1 A2 n1 n2 q1 q2 l1 l2 b hb _ (e1.ext xa) (e2.ext xa) hn hn')
  clear hb e1 e2
  rcases o1 with _ | _
  all_goals
    go_enter Try.func16, Try.ntmps16
    go_wp2_with fail
    refine HE.out.mono ?_
    rintro e w9 ⟨rfl, y9⟩
    go_wp2
    go_ret
    exact ⟨rfl, xa.trans y9⟩
end Go.Proofs.Ytcoaofaofmbfbaa

/- The head of layer 16's laws; a letter's bytes tell the letter. -/
namespace Go.Proofs.Ytcoaofaofmbfbaa
open Go.RowKit

/-! a letter's bytes tell the letter -/
theorem rput_inj {l m : List FV} (hl : fmay l = 0) (hm : fmay m = 0) (kl : ∀ f ∈ l, U64 f.n ∧ f.len = f.b.length) (km : ∀ f ∈ m, U64 f.n ∧ f.len = f.b.length) (h : rput l = rput m) : l.map FV.s = m.map FV.s := by
  have h1 := (trow_put l none none 0 hl kl rfl).2
  have h2 := (trow_put m none none 0 hm km rfl).2
  rw [h] at h1
  rw [← h1, h2]
theorem numF_k (l : List Int) (k : Nat) (h : ∀ x ∈ l, 0 ≤ x ∧ x ≤ 4611686018427387904) : ∀ f ∈ numF k l, U64 f.n ∧ f.len = f.b.length := by
  intro f hf
  obtain ⟨i, hi, _, rfl⟩ := numF_mem l k f hf
  have := h l[i] (List.getElem_mem _)
  exact ⟨by simp only [tfv, U64]; omega, rfl⟩
theorem entF_k {y : EV} (h : EntOk y) : ∀ f ∈ entF y, U64 f.n ∧ f.len = f.b.length := by
  intro f hf
  rcases List.mem_append.1 hf with hf | hf
  · exact numF_k _ 1 (by intro x hx; simp at hx; subst hx; exact ⟨by have := h.t1; omega, by have := h.t2; omega⟩) f hf
  · split at hf
    · simp at hf
    · simp only [List.mem_singleton] at hf
      subst hf; exact ⟨show (0 : Nat) < 18446744073709551616 by decide, rfl⟩
theorem letF_k {x : LV} (h : mayB x = true) : ∀ f ∈ letF x, U64 f.n ∧ f.len = f.b.length := by
  intro f hf
  rcases List.mem_append.1 hf with hf | hf
  · exact numF_k _ 1 (letN_bd h) f hf
  · obtain ⟨y, _, rfl⟩ := List.mem_map.1 hf
    exact ⟨show (0 : Nat) < 18446744073709551616 by decide, rfl⟩
/-- the value of the field k, nought without it -/
def getN (k : Nat) (l : List FV) : Int := match l.find? (fun f => f.num == (k : Int)) with | some f => f.n | none => 0
theorem getN_s {l m : List FV} (k : Nat) (h : l.map FV.s = m.map FV.s) : getN k l = getN k m := by
  induction l generalizing m with
  | nil => cases m with | nil => rfl | cons b r => simp at h
  | cons a l ih =>
    cases m with
    | nil => simp at h
    | cons b r =>
      simp only [List.map_cons, List.cons.injEq] at h
      have e := h.1
      simp only [FV.s, Prod.mk.injEq] at e
      have := ih h.2
      unfold getN at this ⊢
      rw [List.find?_cons, List.find?_cons, e.1]
      by_cases hk : (b.num == (k : Int)) = true
      · rw [hk]; simp only [e.2.2.1]
      · rw [Bool.not_eq_true] at hk; rw [hk]; exact this
theorem getN_pre (k : Nat) (l : List Int) (i : Nat) (m : List FV) (h : ∀ f ∈ m, f.num ≠ k) (h1 : i ≤ k) (h2 : k < i + l.length) (hl : ∀ x ∈ l, 0 ≤ x) : getN k (numF i l ++ m) = l[k - i]'(by omega) := by
  induction l generalizing i with
  | nil => simp at h2; omega
  | cons a r ih =>
    have ha := hl a (by simp)
    by_cases hki : k = i
    · subst hki
      simp only [Nat.sub_self, List.getElem_cons_zero]
      rw [numF_cons]
      by_cases h0 : a = 0
      · rw [if_pos h0, List.nil_append]
        unfold getN
        rw [List.find?_eq_none.2]
        · exact h0.symm
        · intro f hf
          rcases List.mem_append.1 hf with hf | hf
          · obtain ⟨j, _, _, rfl⟩ := numF_mem r (k + 1) f hf
            simp [tfv]; omega
          · simpa using h f hf
      · rw [if_neg h0]
        unfold getN
        simp [tfv]; omega
    · have e := ih (i + 1) (by omega) (by simp at h2; omega) (fun x hx => hl x (by simp [hx]))
      have hidx : k - i = (k - (i + 1)) + 1 := by omega
      have hg : (a :: r)[k - i]'(by omega) = r[k - (i + 1)]'(by simp at h2; omega) := by simp [hidx]
      rw [hg, ← e, numF_cons]
      by_cases h0 : a = 0
      · rw [if_pos h0, List.nil_append]
      · rw [if_neg h0]
        unfold getN
        rw [List.append_assoc, List.singleton_append, List.find?_cons]
        have : ((tfv i 0 a.toNat []).num == (k : Int)) = false := by simp [tfv]; omega
        rw [this]
/-- the bytes of the fields k -/
def getB (k : Nat) (l : List FV) : List (List UInt8) := (l.filter fun f => f.num == (k : Int)).map (·.b)
theorem getB_s {l m : List FV} (k : Nat) (h : l.map FV.s = m.map FV.s) : getB k l = getB k m := by
  induction l generalizing m with
  | nil => cases m with | nil => rfl | cons b r => simp at h
  | cons a l ih =>
    cases m with
    | nil => simp at h
    | cons b r =>
      simp only [List.map_cons, List.cons.injEq] at h
      have e := h.1
      simp only [FV.s, Prod.mk.injEq] at e
      have := ih h.2
      unfold getB at this ⊢
      rw [List.filter_cons, List.filter_cons, e.1]
      split
      · rw [List.map_cons, List.map_cons, this, e.2.2.2.2]
      · exact this
theorem getB_app (k : Nat) (l m : List FV) : getB k (l ++ m) = getB k l ++ getB k m := by simp [getB]
theorem getB_num (k : Nat) (l : List Int) (i : Nat) (h : i + l.length ≤ k) : getB k (numF i l) = [] := by
  unfold getB
  rw [List.map_eq_nil_iff, List.filter_eq_nil_iff]
  intro f hf
  obtain ⟨j, hj, _, rfl⟩ := numF_mem l i f hf
  simp [tfv]; omega
theorem getB_many (k : Nat) (l : List (List UInt8)) : getB k (l.map fun b => tfv k 2 0 b) = l := by
  induction l with
  | nil => rfl
  | cons a r ih =>
    unfold getB at ih ⊢
    rw [List.map_cons, List.filter_cons]
    simp only [tfv, beq_self_eq_true, if_true, List.map_cons] at ih ⊢
    rw [ih]
theorem entF_get {y : EV} (h : EntOk y) : getN 1 (entF y) = y.term ∧ getB 2 (entF y) = (if y.b = [] then [] else [y.b]) := by
  constructor
  · unfold entF
    rw [getN_pre 1 [y.term] 1 _ ?_ (by omega) (by simp) (by intro x hx; simp at hx; subst hx; have := h.t1; omega)]
    · rfl
    · intro f hf
      split at hf
      · simp at hf
      · simp only [List.mem_singleton] at hf; subst hf; simp [tfv]
  · unfold entF
    rw [getB_app, getB_num 2 [y.term] 1 (by simp)]
    split
    · rfl
    · exact getB_many 2 [y.b]
theorem ent_inj {y z : EV} (hy : EntOk y) (hz : EntOk z) (h : rput (entF y) = rput (entF z)) : y.p = z.p := by
  have hs := rput_inj (ent_may hy).1 (ent_may hz).1 (entF_k hy) (entF_k hz) h
  obtain ⟨y1, y2⟩ := entF_get hy
  obtain ⟨z1, z2⟩ := entF_get hz
  rw [getN_s 1 hs, z1] at y1
  rw [getB_s 2 hs, z2] at y2
  unfold EV.p
  rw [y1]
  by_cases e1 : y.b = [] <;> by_cases e2 : z.b = [] <;> simp [e1, e2] at y2 ⊢
  exact y2.symm
theorem ents_inj : ∀ {l m : List EV}, (∀ y ∈ l, EntOk y) → (∀ y ∈ m, EntOk y) → (l.map fun y => rput (entF y)) = (m.map fun y => rput (entF y)) → l.map EV.p = m.map EV.p
  | [], [], _, _, _ => rfl
  | [], _ :: _, _, _, h => by simp at h
  | _ :: _, [], _, _, h => by simp at h
  | a :: l, b :: m, h1, h2, h => by
    simp only [List.map_cons, List.cons.injEq] at h ⊢
    exact ⟨ent_inj (h1 a (by simp)) (h2 b (by simp)) h.1, ents_inj (fun y hy => h1 y (by simp [hy])) (fun y hy => h2 y (by simp [hy])) h.2⟩
/-- what the fields of a letter say, whatever stands behind -/
theorem letF_get {x : LV} (h : mayB x = true) {rest : List FV} (hr : ∀ f ∈ rest, 10 < f.num) (k : Nat) (h1 : 1 ≤ k) (h9 : k ≤ 9) : getN k (letF x ++ rest) = (letN x)[k - 1]'(by simp [letN]; omega) := by
  unfold letF
  rw [List.append_assoc]
  refine getN_pre k (letN x) 1 _ ?_ h1 (by simp [letN]; omega) (fun n hn => (letN_bd h n hn).1)
  intro f hf
  rcases List.mem_append.1 hf with hf | hf
  · obtain ⟨y, _, rfl⟩ := List.mem_map.1 hf
    simp [tfv]; omega
  · have := hr f hf; omega
theorem letF_getB (x : LV) {rest : List FV} (hr : ∀ f ∈ rest, 10 < f.num) : getB 10 (letF x ++ rest) = x.l.map fun y => rput (entF y) := by
  rw [letF_eq, getB_app, getB_app, getB_num 10 (letN x) 1 (by simp [letN]), getB_many]
  have : getB 10 rest = [] := by
    unfold getB
    rw [List.map_eq_nil_iff, List.filter_eq_nil_iff]
    intro f hf
    have := hr f hf
    simp; omega
  rw [this]; simp
theorem let_num {x y : LV} (h : letN x = letN y) : x.kind = y.kind ∧ x.src = y.src ∧ x.dst = y.dst ∧ x.term = y.term ∧ x.bin = y.bin ∧ x.a = y.a ∧ x.b = y.b ∧ x.c = y.c ∧ x.ok = y.ok := by
  simp only [letN, List.cons.injEq, and_true] at h
  obtain ⟨h1, h2, h3, h4, h5, h6, h7, h8, h9⟩ := h
  refine ⟨h1, by omega, by omega, h4, h5, h6, h7, h8, ?_⟩
  revert h9
  cases x.ok <;> cases y.ok <;> simp
theorem get_num {x y : LV} (hx : mayB x = true) (hy : mayB y = true) {r q : List FV} (hr : ∀ f ∈ r, 10 < f.num) (hq : ∀ f ∈ q, 10 < f.num) (hs : (letF x ++ r).map FV.s = (letF y ++ q).map FV.s) : letN x = letN y := by
  refine List.ext_getElem rfl fun i h1 h2 => ?_
  have hi : i < 9 := h1
  have e1 := letF_get hx hr (i + 1) (by omega) (by omega)
  have e2 := letF_get hy hq (i + 1) (by omega) (by omega)
  rw [getN_s _ hs, e2] at e1
  simpa using e1.symm
/-- the bytes of a letter, with what stands behind, tell it -/
theorem let_inj {x y : LV} (hx : mayB x = true) (hy : mayB y = true) (bx : ∀ z ∈ x.l, z.b.length = z.len) (by_ : ∀ z ∈ y.l, z.b.length = z.len) {r q : List FV} (hr : ∀ f ∈ r, 10 < f.num) (hq : ∀ f ∈ q, 10 < f.num)
    (hs : (letF x ++ r).map FV.s = (letF y ++ q).map FV.s) : x.p = y.p := by
  obtain ⟨h1, h2, h3, h4, h5, h6, h7, h8, h9⟩ := let_num (get_num hx hy hr hq hs)
  obtain ⟨_, _, _, _, _, _, _, _, _, _, ex⟩ := mayB_parts hx
  obtain ⟨_, _, _, _, _, _, _, _, _, _, ey⟩ := mayB_parts hy
  have hb := getB_s 10 hs
  rw [letF_getB x hr, letF_getB y hq] at hb
  have := ents_inj (entsB_ok ex bx) (entsB_ok ey by_) hb
  unfold LV.p
  rw [h1, h2, h3, h4, h5, h6, h7, h8, h9, this]
/-- letters that are the same have the same fields -/
theorem let_same {x y : LV} (h : x.p = y.p) : letF x = letF y := by
  simp only [LV.p, Prod.mk.injEq] at h
  obtain ⟨⟨h1, h2, h3, h4, h5⟩, ⟨h6, h7, h8, h9⟩, h10⟩ := h
  unfold letF letN
  rw [h1, h2, h3, h4, h5, h6, h7, h8, h9]
  congr 1
  have e : ∀ l : List EV, (l.map fun y => tfv 10 2 0 (rput (entF y))) = (l.map EV.p).map fun p => tfv 10 2 0 (rput (numF 1 [p.1] ++ (if p.2 = [] then [] else [tfv 2 2 0 p.2]))) := by
    intro l; rw [List.map_map]; rfl
  rw [e, e, h10]
theorem lput_nil_eq {x y : LV} (hx : (lput x []).2 = 0) (hy : (lput y []).2 = 0) (bx : ∀ z ∈ x.l, z.b.length = z.len) (by_ : ∀ z ∈ y.l, z.b.length = z.len) : decide ((lput x []).1 = (lput y []).1) = letEq x y := by
  have p : ∀ {z : LV}, (lput z []).2 = 0 → mayB z = true ∧ fmay (letF z) = 0 ∧ (lput z []).1 = rput (letF z) := by
    intro z h
    unfold lput at h ⊢
    by_cases h1 : mayB z = false
    · rw [if_pos h1] at h; cases h
    · rw [if_neg h1, if_neg (by simp [lowB]), List.append_nil] at h ⊢
      by_cases h2 : fmay (letF z) = 0
      · rw [if_pos h2]; exact ⟨by simpa using h1, h2, rfl⟩
      · rw [if_neg h2] at h; exact absurd h h2
  obtain ⟨x1, x2, x3⟩ := p hx
  obtain ⟨y1, y2, y3⟩ := p hy
  rw [x3, y3, Bool.eq_iff_iff, decide_eq_true_eq, letEq_iff]
  constructor
  · intro h
    have hs := rput_inj x2 y2 (letF_k x1) (letF_k y1) h
    exact let_inj x1 y1 bx by_ (r := []) (q := []) (by simp) (by simp) (by simpa using hs)
  · intro h; rw [let_same h]
end Go.Proofs.Ytcoaofaofmbfbaa

/- What the laws of layer 16 begin with. -/
namespace Go.Proofs.Ytcoaofaofmbfbaa
open Go.RowKit

/-- the example of the document -/
def exL : LV := ⟨2, 0, 1, 2, 0, 0, 0, 3, true, none, 0, 0, []⟩
theorem exL_ok (w : World) : exL.Ok w := ⟨Es.nil_ _ _, Nat.le_refl _, by simp [exL, maxLen], ⟨by simp [exL], by simp [exL]⟩, ⟨by simp [exL], by simp [exL]⟩, ⟨by simp [exL], by simp [exL]⟩, ⟨by simp [exL], by simp [exL]⟩, ⟨by simp [exL], by simp [exL]⟩, ⟨by simp [exL], by simp [exL]⟩, ⟨by simp [exL], by simp [exL]⟩, ⟨by simp [exL], by simp [exL]⟩⟩
theorem exL_put : lput exL [] = ([8, 2, 16, 1, 24, 2, 32, 2, 40, 3, 72, 1], 0) := by
  have hm : mayB exL = true := by decide
  have hf : fmay (letF exL) = 0 := let_may hm (by simp [exL]) rfl
  have hv : ∀ n, n < 128 → vput n = [UInt8.ofNat n] := fun n h => vput_small h
  have hr : rput (letF exL) = [8, 2, 16, 1, 24, 2, 32, 2, 40, 3, 72, 1] := by
    simp [rput, letF, letN, exL, numF, fbytes, fput, tfv, hv]
  unfold lput
  rw [if_neg (by simp [hm]), if_neg (by simp [lowB]), List.append_nil, if_pos hf, hr]
set_option maxRecDepth 100000 in
set_option maxHeartbeats 400000 in
theorem law16_shown (w : World) : Calls Try.prog 12 #[] w fun e w' => e = .returned (.bool true) ∧ Ext w w' := by
  have HP := Lib.hid (letter_Put exL none 0 0 [] w (exL_ok w) (by simp [exL]) (Fs.nil_ w none) (by omega))
  rw [exL_put] at HP
  unfold LV.val exL at HP
  dsimp only at HP
  go_enter Try.func12, Try.ntmps12
  go_wp2_with fail
  refine HP.out.mono ?_
  rintro e w1 ⟨v, rfl, hown, hx⟩
  obtain ⟨A, c, rfl, _⟩ := own_form hown
  have hs1 := str_at (show Bs w1 A 12 [8, 2, 16, 1, 24, 2, 32, 2, 40, 3, 72, 1] from Bs.of_own hown) c
  have hs2 := str_at (bs_lit w1 #[.int .u8 8, .int .u8 2, .int .u8 16, .int .u8 1, .int .u8 24, .int .u8 2, .int .u8 32, .int .u8 2, .int .u8 40, .int .u8 3, .int .u8 72, .int .u8 1] [8, 2, 16, 1, 24, 2, 32, 2, 40, 3, 72, 1] 12 rfl rfl) 12
  clear hown HP
  go_wp2
  go_ret
  exact ⟨rfl, hx.alloc _⟩

/-- a letter of at most 6 entries, of 250 bytes each -/
def cutX (x : LV) (A : Option Addr) (c : Nat) : LV := ⟨x.kind, x.src, x.dst, x.term, x.a, x.b, x.c, x.bin, x.ok, A, min 6 x.n, c, cutL 6 250 x.l⟩
theorem law16_letter_ (x : LV) (w : World) (hx : x.Ok w) :
    Calls Try.prog 14 #[x.val] w fun e w' => ∃ A c, e = .returned (cutX x A c).val ∧ w'.ownsRow w.heap.size 31 2 (.slice A (min 6 x.n) c) (min 6 x.n) (logOf (cutL 6 250 x.l)) ∧ Ext w w' := by
  refine (law16_letter x.kind x.src x.dst x.term x.a x.b x.c x.bin x.ok x.A x.n x.cp x.l w hx.es hx.le hx.cap).mono ?_
  rintro e w' ⟨v, rfl, hown, he⟩
  obtain ⟨A, c, rfl, _⟩ := own_form hown
  exact ⟨A, c, rfl, hown, he⟩
theorem cutX_ok {x : LV} {w w' : World} (hx : x.Ok w) (he : Ext w w') {B : Nat} {A : Option Addr} {c : Nat} (ho : w'.ownsRow B 31 2 (.slice A (min 6 x.n) c) (min 6 x.n) (logOf (cutL 6 250 x.l))) : (cutX x A c).Ok w' := by
  have hb := own_bounds ho
  exact ⟨Es.of_own ho (fun f hf => (cutL_ok hx.es.ok f hf).ext he), hb.1, hb.2, hx.u0, hx.u1, hx.u2, hx.u3, hx.u4, hx.u5, hx.u6, hx.u7⟩
/-- a world in which a block of ten cells was stored anew -/
def put10 (w : World) (g : Nat) (a b c d e f i j k v : Value) : World := (((((((((w.setCell ⟨g, 0, none⟩ a).setCell ⟨g, 1, none⟩ b).setCell ⟨g, 2, none⟩ c).setCell ⟨g, 3, none⟩ d).setCell ⟨g, 4, none⟩ e).setCell ⟨g, 5, none⟩ f).setCell ⟨g, 6, none⟩ i).setCell ⟨g, 7, none⟩ j).setCell ⟨g, 8, none⟩ k).setCell ⟨g, 9, none⟩ v
theorem put10_def (w : World) (g : Nat) (a b c d e f i j k v : Value) : (((((((((w.setCell ⟨g, 0, none⟩ a).setCell ⟨g, 1, none⟩ b).setCell ⟨g, 2, none⟩ c).setCell ⟨g, 3, none⟩ d).setCell ⟨g, 4, none⟩ e).setCell ⟨g, 5, none⟩ f).setCell ⟨g, 6, none⟩ i).setCell ⟨g, 7, none⟩ j).setCell ⟨g, 8, none⟩ k).setCell ⟨g, 9, none⟩ v = put10 w g a b c d e f i j k v := rfl
theorem Blk.st10 {w : World} {g : Nat} {t : TypeId} {a' b' c' d' e' f' i' j' k' v' : Value} (h : Blk w g t [a', b', c', d', e', f', i', j', k', v']) (a b c d e f i j k v : Value) : Blk (put10 w g a b c d e f i j k v) g t [a, b, c, d, e, f, i, j, k, v] := by
  have := (((((((((h.set_ 0 a).set_ 1 b).set_ 2 c).set_ 3 d).set_ 4 e).set_ 5 f).set_ 6 i).set_ 7 j).set_ 8 k).set_ 9 v
  unfold put10
  simpa using this
theorem Blk.fr10 {w : World} {g g' : Nat} {t : TypeId} {l : List Value} (h : Blk w g t l) (hg : g ≠ g') (a b c d e f i j k v : Value) : Blk (put10 w g' a b c d e f i j k v) g t l :=
  (((((((((h.far (p := ⟨g', 0, none⟩) hg a).far (p := ⟨g', 1, none⟩) hg b).far (p := ⟨g', 2, none⟩) hg c).far (p := ⟨g', 3, none⟩) hg d).far (p := ⟨g', 4, none⟩) hg e).far (p := ⟨g', 5, none⟩) hg f).far (p := ⟨g', 6, none⟩) hg i).far (p := ⟨g', 7, none⟩) hg j).far (p := ⟨g', 8, none⟩) hg k).far (p := ⟨g', 9, none⟩) hg v
theorem Ext.st10 {w0 w : World} {g : Nat} (h : Ext w0 w) (hg : w0.heap.size ≤ g) (a b c d e f i j k v : Value) : Ext w0 (put10 w g a b c d e f i j k v) :=
  (((((((((h.setCell (p := ⟨g, 0, none⟩) hg a).setCell (p := ⟨g, 1, none⟩) hg b).setCell (p := ⟨g, 2, none⟩) hg c).setCell (p := ⟨g, 3, none⟩) hg d).setCell (p := ⟨g, 4, none⟩) hg e).setCell (p := ⟨g, 5, none⟩) hg f).setCell (p := ⟨g, 6, none⟩) hg i).setCell (p := ⟨g, 7, none⟩) hg j).setCell (p := ⟨g, 8, none⟩) hg k).setCell (p := ⟨g, 9, none⟩) hg v
theorem own_st10 {w : World} {base : Nat} {t : TypeId} {size n : Nat} {u : Value} {xs : List Value} (h : w.ownsRow base t size u n xs) {g : Nat} (hg : g < base) (a b c d e f i j k v : Value) : (put10 w g a b c d e f i j k v).ownsRow base t size u n xs :=
  own_set (own_set (own_set (own_set (own_set (own_set (own_set (own_set (own_set (own_set h (p := ⟨g, 0, none⟩) hg a) (p := ⟨g, 1, none⟩) hg b) (p := ⟨g, 2, none⟩) hg c) (p := ⟨g, 3, none⟩) hg d) (p := ⟨g, 4, none⟩) hg e) (p := ⟨g, 5, none⟩) hg f) (p := ⟨g, 6, none⟩) hg i) (p := ⟨g, 7, none⟩) hg j) (p := ⟨g, 8, none⟩) hg k) (p := ⟨g, 9, none⟩) hg v
theorem put10_size (w : World) (g : Nat) (a b c d e f i j k v : Value) : (put10 w g a b c d e f i j k v).heap.size = w.heap.size := by unfold put10; simp
end Go.Proofs.Ytcoaofaofmbfbaa

/- The walk of the law LetterSame. (Printed by wip/tools/lpsamelaw.py.) -/
namespace Go.Proofs.Ytcoaofaofmbfbaa
open Go.RowKit

set_option maxRecDepth 100000 in
set_option maxHeartbeats 3200000 in
theorem law_LetterSame (x y : LV) (w : World) (hx : x.Ok w) (hy : y.Ok w) :
    Calls Try.prog 4 #[x.val, y.val] w fun e w' => e = .returned (.bool true) ∧ Ext w w' := by
  have hBx : Blk ((w.alloc (.cells #[.int .i64 x.kind, .int .i64 x.src, .int .i64 x.dst, .int .i64 x.term, .int .i64 x.a, .int .i64 x.b, .int .i64 x.c, .int .i64 x.bin, .bool x.ok, .slice x.A x.n x.cp] 26)).alloc (.cells #[.int .i64 y.kind, .int .i64 y.src, .int .i64 y.dst, .int .i64 y.term, .int .i64 y.a, .int .i64 y.b, .int .i64 y.c, .int .i64 y.bin, .bool y.ok, .slice y.A y.n y.cp] 26)) (w.heap.size) 26 [.int .i64 x.kind, .int .i64 x.src, .int .i64 x.dst, .int .i64 x.term, .int .i64 x.a, .int .i64 x.b, .int .i64 x.c, .int .i64 x.bin, .bool x.ok, .slice x.A x.n x.cp] := by
    have h0 := Blk.new w 26 [.int .i64 x.kind, .int .i64 x.src, .int .i64 x.dst, .int .i64 x.term, .int .i64 x.a, .int .i64 x.b, .int .i64 x.c, .int .i64 x.bin, .bool x.ok, .slice x.A x.n x.cp]
    exact (h0.alloc _)
  have hBy : Blk ((w.alloc (.cells #[.int .i64 x.kind, .int .i64 x.src, .int .i64 x.dst, .int .i64 x.term, .int .i64 x.a, .int .i64 x.b, .int .i64 x.c, .int .i64 x.bin, .bool x.ok, .slice x.A x.n x.cp] 26)).alloc (.cells #[.int .i64 y.kind, .int .i64 y.src, .int .i64 y.dst, .int .i64 y.term, .int .i64 y.a, .int .i64 y.b, .int .i64 y.c, .int .i64 y.bin, .bool y.ok, .slice y.A y.n y.cp] 26)) (w.heap.size + 1) 26 [.int .i64 y.kind, .int .i64 y.src, .int .i64 y.dst, .int .i64 y.term, .int .i64 y.a, .int .i64 y.b, .int .i64 y.c, .int .i64 y.bin, .bool y.ok, .slice y.A y.n y.cp] := by
    have h0 := Blk.new (w.alloc (.cells #[.int .i64 x.kind, .int .i64 x.src, .int .i64 x.dst, .int .i64 x.term, .int .i64 x.a, .int .i64 x.b, .int .i64 x.c, .int .i64 x.bin, .bool x.ok, .slice x.A x.n x.cp] 26)) 26 [.int .i64 y.kind, .int .i64 y.src, .int .i64 y.dst, .int .i64 y.term, .int .i64 y.a, .int .i64 y.b, .int .i64 y.c, .int .i64 y.bin, .bool y.ok, .slice y.A y.n y.cp]
    rw [show (w.alloc (.cells #[.int .i64 x.kind, .int .i64 x.src, .int .i64 x.dst, .int .i64 x.term, .int .i64 x.a, .int .i64 x.b, .int .i64 x.c, .int .i64 x.bin, .bool x.ok, .slice x.A x.n x.cp] 26)).heap.size = w.heap.size + 1 by simp] at h0
    exact h0
  have xW : Ext w ((w.alloc (.cells #[.int .i64 x.kind, .int .i64 x.src, .int .i64 x.dst, .int .i64 x.term, .int .i64 x.a, .int .i64 x.b, .int .i64 x.c, .int .i64 x.bin, .bool x.ok, .slice x.A x.n x.cp] 26)).alloc (.cells #[.int .i64 y.kind, .int .i64 y.src, .int .i64 y.dst, .int .i64 y.term, .int .i64 y.a, .int .i64 y.b, .int .i64 y.c, .int .i64 y.bin, .bool y.ok, .slice y.A y.n y.cp] 26)) := ((Ext.refl w).alloc _).alloc _
  have hzW : w.heap.size + 1 + 1 ≤ ((w.alloc (.cells #[.int .i64 x.kind, .int .i64 x.src, .int .i64 x.dst, .int .i64 x.term, .int .i64 x.a, .int .i64 x.b, .int .i64 x.c, .int .i64 x.bin, .bool x.ok, .slice x.A x.n x.cp] 26)).alloc (.cells #[.int .i64 y.kind, .int .i64 y.src, .int .i64 y.dst, .int .i64 y.term, .int .i64 y.a, .int .i64 y.b, .int .i64 y.c, .int .i64 y.bin, .bool y.ok, .slice y.A y.n y.cp] 26)).heap.size := by simp
  unfold LV.val
  go_enter Try.func4, Try.ntmps4
  go_wp2_with fail
  refine (law16_shown _).mono ?_
  rintro e w1 ⟨rfl, x1⟩
  replace hBx := hBx.ext x1
  replace hBy := hBy.ext x1
  replace xW := xW.trans x1
  replace hzW := Nat.le_trans hzW x1.size
  clear x1
  have d0 := hBx.cell 0
  have d1 := hBx.cell 1
  have d2 := hBx.cell 2
  have d3 := hBx.cell 3
  have d4 := hBx.cell 4
  have d5 := hBx.cell 5
  have d6 := hBx.cell 6
  have d7 := hBx.cell 7
  have d8 := hBx.cell 8
  have d9 := hBx.cell 9
  simp only [List.getElem?_cons_zero, List.getElem?_cons_succ] at d0 d1 d2 d3 d4 d5 d6 d7 d8 d9
  have HL := Lib.hid (law16_letter_ x w1 (hx.ext xW))
  unfold LV.val at HL
  go_wp2_with fail
  refine HL.out.mono ?_
  clear HL
  rintro e v2 ⟨Ax, cx, rfl, ownx, yx⟩
  clear d0 d1 d2 d3 d4 d5 d6 d7 d8 d9
  replace hBx := hBx.ext yx
  replace hBy := hBy.ext yx
  replace ownx := own_base ownx hzW
  replace xW := xW.trans yx
  replace hzW := Nat.le_trans hzW yx.size
  clear yx
  have d0 := hBx.cell 0
  have d1 := hBx.cell 1
  have d2 := hBx.cell 2
  have d3 := hBx.cell 3
  have d4 := hBx.cell 4
  have d5 := hBx.cell 5
  have d6 := hBx.cell 6
  have d7 := hBx.cell 7
  have d8 := hBx.cell 8
  have d9 := hBx.cell 9
  simp only [List.getElem?_cons_zero, List.getElem?_cons_succ] at d0 d1 d2 d3 d4 d5 d6 d7 d8 d9
  have f0 := hBx.frozen 0
  have f1 := hBx.frozen 1
  have f2 := hBx.frozen 2
  have f3 := hBx.frozen 3
  have f4 := hBx.frozen 4
  have f5 := hBx.frozen 5
  have f6 := hBx.frozen 6
  have f7 := hBx.frozen 7
  have f8 := hBx.frozen 8
  have f9 := hBx.frozen 9
  go_upto_region 3 with fail
  rw [put10_def]
  clear d0 f0 d1 f1 d2 f2 d3 f3 d4 f4 d5 f5 d6 f6 d7 f7 d8 f8 d9 f9
  replace hBy := hBy.fr10 (g' := w.heap.size) (by omega) (.int .i64 (cutX x Ax cx).kind) (.int .i64 (cutX x Ax cx).src) (.int .i64 (cutX x Ax cx).dst) (.int .i64 (cutX x Ax cx).term) (.int .i64 (cutX x Ax cx).a) (.int .i64 (cutX x Ax cx).b) (.int .i64 (cutX x Ax cx).c) (.int .i64 (cutX x Ax cx).bin) (.bool (cutX x Ax cx).ok) (.slice (cutX x Ax cx).A (cutX x Ax cx).n (cutX x Ax cx).cp)
  replace hBx := hBx.st10 (.int .i64 (cutX x Ax cx).kind) (.int .i64 (cutX x Ax cx).src) (.int .i64 (cutX x Ax cx).dst) (.int .i64 (cutX x Ax cx).term) (.int .i64 (cutX x Ax cx).a) (.int .i64 (cutX x Ax cx).b) (.int .i64 (cutX x Ax cx).c) (.int .i64 (cutX x Ax cx).bin) (.bool (cutX x Ax cx).ok) (.slice (cutX x Ax cx).A (cutX x Ax cx).n (cutX x Ax cx).cp)
  replace ownx := own_st10 ownx (g := w.heap.size) (by omega) (.int .i64 (cutX x Ax cx).kind) (.int .i64 (cutX x Ax cx).src) (.int .i64 (cutX x Ax cx).dst) (.int .i64 (cutX x Ax cx).term) (.int .i64 (cutX x Ax cx).a) (.int .i64 (cutX x Ax cx).b) (.int .i64 (cutX x Ax cx).c) (.int .i64 (cutX x Ax cx).bin) (.bool (cutX x Ax cx).ok) (.slice (cutX x Ax cx).A (cutX x Ax cx).n (cutX x Ax cx).cp)
  replace xW := xW.st10 (g := w.heap.size) (by omega) (.int .i64 (cutX x Ax cx).kind) (.int .i64 (cutX x Ax cx).src) (.int .i64 (cutX x Ax cx).dst) (.int .i64 (cutX x Ax cx).term) (.int .i64 (cutX x Ax cx).a) (.int .i64 (cutX x Ax cx).b) (.int .i64 (cutX x Ax cx).c) (.int .i64 (cutX x Ax cx).bin) (.bool (cutX x Ax cx).ok) (.slice (cutX x Ax cx).A (cutX x Ax cx).n (cutX x Ax cx).cp)
  replace hzW : w.heap.size + 1 + 1 ≤ (put10 v2 (w.heap.size) (.int .i64 (cutX x Ax cx).kind) (.int .i64 (cutX x Ax cx).src) (.int .i64 (cutX x Ax cx).dst) (.int .i64 (cutX x Ax cx).term) (.int .i64 (cutX x Ax cx).a) (.int .i64 (cutX x Ax cx).b) (.int .i64 (cutX x Ax cx).c) (.int .i64 (cutX x Ax cx).bin) (.bool (cutX x Ax cx).ok) (.slice (cutX x Ax cx).A (cutX x Ax cx).n (cutX x Ax cx).cp)).heap.size := by rw [put10_size]; exact hzW
  generalize put10 v2 (w.heap.size) (.int .i64 (cutX x Ax cx).kind) (.int .i64 (cutX x Ax cx).src) (.int .i64 (cutX x Ax cx).dst) (.int .i64 (cutX x Ax cx).term) (.int .i64 (cutX x Ax cx).a) (.int .i64 (cutX x Ax cx).b) (.int .i64 (cutX x Ax cx).c) (.int .i64 (cutX x Ax cx).bin) (.bool (cutX x Ax cx).ok) (.slice (cutX x Ax cx).A (cutX x Ax cx).n (cutX x Ax cx).cp) = W0 at *
  have d0 := hBy.cell 0
  have d1 := hBy.cell 1
  have d2 := hBy.cell 2
  have d3 := hBy.cell 3
  have d4 := hBy.cell 4
  have d5 := hBy.cell 5
  have d6 := hBy.cell 6
  have d7 := hBy.cell 7
  have d8 := hBy.cell 8
  have d9 := hBy.cell 9
  simp only [List.getElem?_cons_zero, List.getElem?_cons_succ] at d0 d1 d2 d3 d4 d5 d6 d7 d8 d9
  have HL := Lib.hid (law16_letter_ y W0 (hy.ext xW))
  unfold LV.val at HL
  go_wp2_with fail
  refine HL.out.mono ?_
  clear HL
  rintro e v3 ⟨Ay, cy, rfl, owny, yy⟩
  clear d0 d1 d2 d3 d4 d5 d6 d7 d8 d9
  replace hBx := hBx.ext yy
  replace hBy := hBy.ext yy
  replace owny := own_base owny hzW
  replace ownx := own_ext ownx yy
  replace xW := xW.trans yy
  replace hzW := Nat.le_trans hzW yy.size
  clear yy
  have d0 := hBy.cell 0
  have d1 := hBy.cell 1
  have d2 := hBy.cell 2
  have d3 := hBy.cell 3
  have d4 := hBy.cell 4
  have d5 := hBy.cell 5
  have d6 := hBy.cell 6
  have d7 := hBy.cell 7
  have d8 := hBy.cell 8
  have d9 := hBy.cell 9
  simp only [List.getElem?_cons_zero, List.getElem?_cons_succ] at d0 d1 d2 d3 d4 d5 d6 d7 d8 d9
  have f0 := hBy.frozen 0
  have f1 := hBy.frozen 1
  have f2 := hBy.frozen 2
  have f3 := hBy.frozen 3
  have f4 := hBy.frozen 4
  have f5 := hBy.frozen 5
  have f6 := hBy.frozen 6
  have f7 := hBy.frozen 7
  have f8 := hBy.frozen 8
  have f9 := hBy.frozen 9
  go_upto_region 4 with fail
  rw [put10_def]
  clear d0 f0 d1 f1 d2 f2 d3 f3 d4 f4 d5 f5 d6 f6 d7 f7 d8 f8 d9 f9
  replace hBx := hBx.fr10 (g' := w.heap.size + 1) (by omega) (.int .i64 (cutX y Ay cy).kind) (.int .i64 (cutX y Ay cy).src) (.int .i64 (cutX y Ay cy).dst) (.int .i64 (cutX y Ay cy).term) (.int .i64 (cutX y Ay cy).a) (.int .i64 (cutX y Ay cy).b) (.int .i64 (cutX y Ay cy).c) (.int .i64 (cutX y Ay cy).bin) (.bool (cutX y Ay cy).ok) (.slice (cutX y Ay cy).A (cutX y Ay cy).n (cutX y Ay cy).cp)
  replace hBy := hBy.st10 (.int .i64 (cutX y Ay cy).kind) (.int .i64 (cutX y Ay cy).src) (.int .i64 (cutX y Ay cy).dst) (.int .i64 (cutX y Ay cy).term) (.int .i64 (cutX y Ay cy).a) (.int .i64 (cutX y Ay cy).b) (.int .i64 (cutX y Ay cy).c) (.int .i64 (cutX y Ay cy).bin) (.bool (cutX y Ay cy).ok) (.slice (cutX y Ay cy).A (cutX y Ay cy).n (cutX y Ay cy).cp)
  replace ownx := own_st10 ownx (g := w.heap.size + 1) (by omega) (.int .i64 (cutX y Ay cy).kind) (.int .i64 (cutX y Ay cy).src) (.int .i64 (cutX y Ay cy).dst) (.int .i64 (cutX y Ay cy).term) (.int .i64 (cutX y Ay cy).a) (.int .i64 (cutX y Ay cy).b) (.int .i64 (cutX y Ay cy).c) (.int .i64 (cutX y Ay cy).bin) (.bool (cutX y Ay cy).ok) (.slice (cutX y Ay cy).A (cutX y Ay cy).n (cutX y Ay cy).cp)
  replace owny := own_st10 owny (g := w.heap.size + 1) (by omega) (.int .i64 (cutX y Ay cy).kind) (.int .i64 (cutX y Ay cy).src) (.int .i64 (cutX y Ay cy).dst) (.int .i64 (cutX y Ay cy).term) (.int .i64 (cutX y Ay cy).a) (.int .i64 (cutX y Ay cy).b) (.int .i64 (cutX y Ay cy).c) (.int .i64 (cutX y Ay cy).bin) (.bool (cutX y Ay cy).ok) (.slice (cutX y Ay cy).A (cutX y Ay cy).n (cutX y Ay cy).cp)
  replace xW := xW.st10 (g := w.heap.size + 1) (by omega) (.int .i64 (cutX y Ay cy).kind) (.int .i64 (cutX y Ay cy).src) (.int .i64 (cutX y Ay cy).dst) (.int .i64 (cutX y Ay cy).term) (.int .i64 (cutX y Ay cy).a) (.int .i64 (cutX y Ay cy).b) (.int .i64 (cutX y Ay cy).c) (.int .i64 (cutX y Ay cy).bin) (.bool (cutX y Ay cy).ok) (.slice (cutX y Ay cy).A (cutX y Ay cy).n (cutX y Ay cy).cp)
  replace hzW : w.heap.size + 1 + 1 ≤ (put10 v3 (w.heap.size + 1) (.int .i64 (cutX y Ay cy).kind) (.int .i64 (cutX y Ay cy).src) (.int .i64 (cutX y Ay cy).dst) (.int .i64 (cutX y Ay cy).term) (.int .i64 (cutX y Ay cy).a) (.int .i64 (cutX y Ay cy).b) (.int .i64 (cutX y Ay cy).c) (.int .i64 (cutX y Ay cy).bin) (.bool (cutX y Ay cy).ok) (.slice (cutX y Ay cy).A (cutX y Ay cy).n (cutX y Ay cy).cp)).heap.size := by rw [put10_size]; exact hzW
  generalize put10 v3 (w.heap.size + 1) (.int .i64 (cutX y Ay cy).kind) (.int .i64 (cutX y Ay cy).src) (.int .i64 (cutX y Ay cy).dst) (.int .i64 (cutX y Ay cy).term) (.int .i64 (cutX y Ay cy).a) (.int .i64 (cutX y Ay cy).b) (.int .i64 (cutX y Ay cy).c) (.int .i64 (cutX y Ay cy).bin) (.bool (cutX y Ay cy).ok) (.slice (cutX y Ay cy).A (cutX y Ay cy).n (cutX y Ay cy).cp) = W1 at *
  have okx := cutX_ok hx xW ownx
  have sixx : (cutX x Ax cx).n ≤ 6 := by dsimp only [cutX]; omega
  have oky := cutX_ok hy xW owny
  have sixy : (cutX y Ay cy).n ≤ 6 := by dsimp only [cutX]; omega
  clear ownx hx owny hy
  generalize cutX x Ax cx = tx at *
  generalize cutX y Ay cy = ty at *
  have bx : ∀ z ∈ tx.l, z.b.length = z.len := fun z hz => (okx.es.ok z hz).bs.len
  have by_ : ∀ z ∈ ty.l, z.b.length = z.len := fun z hz => (oky.es.ok z hz).bs.len
  have HQ := Lib.hid (fun h1 h2 => lput_nil_eq (x := tx) (y := ty) h1 h2 bx by_)
  have PX := Lib.hid (fun (w' : World) (h : Ext W1 w') => letter_Put tx none 0 0 [] w' (okx.ext h) (by omega) (Fs.nil_ w' none) (by omega))
  have PY := Lib.hid (fun (w' : World) (h : Ext W1 w') => letter_Put ty none 0 0 [] w' (oky.ext h) (by omega) (Fs.nil_ w' none) (by omega))
  have S1 := Lib.hid (fun (w' : World) (h : Ext W1 w') => letter_Same tx ty _ rfl w' (okx.ext h) (oky.ext h) (by omega) (by omega))
  have S2 := Lib.hid (fun (w' : World) (h : Ext W1 w') => letter_Same tx tx true (letEq_refl tx) w' (okx.ext h) (okx.ext h) (by omega) (by omega))
  have S3 := Lib.hid (fun (w' : World) (h : Ext W1 w') => letter_Same ty tx _ (letEq_comm tx ty) w' (oky.ext h) (okx.ext h) (by omega) (by omega))
  generalize letEq tx ty = b at *
  generalize lput tx [] = p at *
  generalize lput ty [] = q at *
  obtain ⟨p, ep⟩ := p
  obtain ⟨q, eq⟩ := q
  unfold LV.val at PX PY S1 S2 S3
  dsimp only at PX PY HQ
  clear bx by_ okx oky
  have z0 := Ext.refl W1
  have d0 := (hBx.ext z0).cell 0
  have d1 := (hBx.ext z0).cell 1
  have d2 := (hBx.ext z0).cell 2
  have d3 := (hBx.ext z0).cell 3
  have d4 := (hBx.ext z0).cell 4
  have d5 := (hBx.ext z0).cell 5
  have d6 := (hBx.ext z0).cell 6
  have d7 := (hBx.ext z0).cell 7
  have d8 := (hBx.ext z0).cell 8
  have d9 := (hBx.ext z0).cell 9
  simp only [List.getElem?_cons_zero, List.getElem?_cons_succ] at d0 d1 d2 d3 d4 d5 d6 d7 d8 d9
  have e0 := (hBy.ext z0).cell 0
  have e1 := (hBy.ext z0).cell 1
  have e2 := (hBy.ext z0).cell 2
  have e3 := (hBy.ext z0).cell 3
  have e4 := (hBy.ext z0).cell 4
  have e5 := (hBy.ext z0).cell 5
  have e6 := (hBy.ext z0).cell 6
  have e7 := (hBy.ext z0).cell 7
  have e8 := (hBy.ext z0).cell 8
  have e9 := (hBy.ext z0).cell 9
  simp only [List.getElem?_cons_zero, List.getElem?_cons_succ] at e0 e1 e2 e3 e4 e5 e6 e7 e8 e9
  go_wp2_with fail
  refine (PX.out _ z0).mono ?_
  rintro e w4 ⟨v4, rfl, hown4, z4⟩
  obtain ⟨A4, c4, rfl, _⟩ := own_form hown4
  have hb4 : Bs w4 A4 p.length p := Bs.of_own hown4
  clear PX z0 d0 d1 d2 d3 d4 d5 d6 d7 d8 d9 e0 e1 e2 e3 e4 e5 e6 e7 e8 e9 hown4
  have d0 := (hBx.ext z4).cell 0
  have d1 := (hBx.ext z4).cell 1
  have d2 := (hBx.ext z4).cell 2
  have d3 := (hBx.ext z4).cell 3
  have d4 := (hBx.ext z4).cell 4
  have d5 := (hBx.ext z4).cell 5
  have d6 := (hBx.ext z4).cell 6
  have d7 := (hBx.ext z4).cell 7
  have d8 := (hBx.ext z4).cell 8
  have d9 := (hBx.ext z4).cell 9
  simp only [List.getElem?_cons_zero, List.getElem?_cons_succ] at d0 d1 d2 d3 d4 d5 d6 d7 d8 d9
  have e0 := (hBy.ext z4).cell 0
  have e1 := (hBy.ext z4).cell 1
  have e2 := (hBy.ext z4).cell 2
  have e3 := (hBy.ext z4).cell 3
  have e4 := (hBy.ext z4).cell 4
  have e5 := (hBy.ext z4).cell 5
  have e6 := (hBy.ext z4).cell 6
  have e7 := (hBy.ext z4).cell 7
  have e8 := (hBy.ext z4).cell 8
  have e9 := (hBy.ext z4).cell 9
  simp only [List.getElem?_cons_zero, List.getElem?_cons_succ] at e0 e1 e2 e3 e4 e5 e6 e7 e8 e9
  go_wp2_with fail
  refine (PY.out _ z4).mono ?_
  rintro e w5 ⟨v5, rfl, hown5, z5'⟩
  have z5 := z4.trans z5'
  replace hb4 := hb4.ext z5'
  obtain ⟨A5, c5, rfl, _⟩ := own_form hown5
  have hb5 : Bs w5 A5 q.length q := Bs.of_own hown5
  clear PY z4 z5' d0 d1 d2 d3 d4 d5 d6 d7 d8 d9 e0 e1 e2 e3 e4 e5 e6 e7 e8 e9 hown5
  have d0 := (hBx.ext z5).cell 0
  have d1 := (hBx.ext z5).cell 1
  have d2 := (hBx.ext z5).cell 2
  have d3 := (hBx.ext z5).cell 3
  have d4 := (hBx.ext z5).cell 4
  have d5 := (hBx.ext z5).cell 5
  have d6 := (hBx.ext z5).cell 6
  have d7 := (hBx.ext z5).cell 7
  have d8 := (hBx.ext z5).cell 8
  have d9 := (hBx.ext z5).cell 9
  simp only [List.getElem?_cons_zero, List.getElem?_cons_succ] at d0 d1 d2 d3 d4 d5 d6 d7 d8 d9
  have e0 := (hBy.ext z5).cell 0
  have e1 := (hBy.ext z5).cell 1
  have e2 := (hBy.ext z5).cell 2
  have e3 := (hBy.ext z5).cell 3
  have e4 := (hBy.ext z5).cell 4
  have e5 := (hBy.ext z5).cell 5
  have e6 := (hBy.ext z5).cell 6
  have e7 := (hBy.ext z5).cell 7
  have e8 := (hBy.ext z5).cell 8
  have e9 := (hBy.ext z5).cell 9
  simp only [List.getElem?_cons_zero, List.getElem?_cons_succ] at e0 e1 e2 e3 e4 e5 e6 e7 e8 e9
  go_wp2_with fail
  refine (S1.out _ z5).mono ?_
  rintro e w6 ⟨rfl, z6'⟩
  have z6 := z5.trans z6'
  replace hb4 := hb4.ext z6'
  replace hb5 := hb5.ext z6'
  clear S1 z5 z6' d0 d1 d2 d3 d4 d5 d6 d7 d8 d9 e0 e1 e2 e3 e4 e5 e6 e7 e8 e9
  have d0 := (hBx.ext z6).cell 0
  have d1 := (hBx.ext z6).cell 1
  have d2 := (hBx.ext z6).cell 2
  have d3 := (hBx.ext z6).cell 3
  have d4 := (hBx.ext z6).cell 4
  have d5 := (hBx.ext z6).cell 5
  have d6 := (hBx.ext z6).cell 6
  have d7 := (hBx.ext z6).cell 7
  have d8 := (hBx.ext z6).cell 8
  have d9 := (hBx.ext z6).cell 9
  simp only [List.getElem?_cons_zero, List.getElem?_cons_succ] at d0 d1 d2 d3 d4 d5 d6 d7 d8 d9
  have e0 := (hBy.ext z6).cell 0
  have e1 := (hBy.ext z6).cell 1
  have e2 := (hBy.ext z6).cell 2
  have e3 := (hBy.ext z6).cell 3
  have e4 := (hBy.ext z6).cell 4
  have e5 := (hBy.ext z6).cell 5
  have e6 := (hBy.ext z6).cell 6
  have e7 := (hBy.ext z6).cell 7
  have e8 := (hBy.ext z6).cell 8
  have e9 := (hBy.ext z6).cell 9
  simp only [List.getElem?_cons_zero, List.getElem?_cons_succ] at e0 e1 e2 e3 e4 e5 e6 e7 e8 e9
  go_wp2_with fail
  refine (S2.out _ z6).mono ?_
  rintro e w7 ⟨rfl, z7'⟩
  have z7 := z6.trans z7'
  replace hb4 := hb4.ext z7'
  replace hb5 := hb5.ext z7'
  clear S2 z6 z7' d0 d1 d2 d3 d4 d5 d6 d7 d8 d9 e0 e1 e2 e3 e4 e5 e6 e7 e8 e9
  have d0 := (hBx.ext z7).cell 0
  have d1 := (hBx.ext z7).cell 1
  have d2 := (hBx.ext z7).cell 2
  have d3 := (hBx.ext z7).cell 3
  have d4 := (hBx.ext z7).cell 4
  have d5 := (hBx.ext z7).cell 5
  have d6 := (hBx.ext z7).cell 6
  have d7 := (hBx.ext z7).cell 7
  have d8 := (hBx.ext z7).cell 8
  have d9 := (hBx.ext z7).cell 9
  simp only [List.getElem?_cons_zero, List.getElem?_cons_succ] at d0 d1 d2 d3 d4 d5 d6 d7 d8 d9
  have e0 := (hBy.ext z7).cell 0
  have e1 := (hBy.ext z7).cell 1
  have e2 := (hBy.ext z7).cell 2
  have e3 := (hBy.ext z7).cell 3
  have e4 := (hBy.ext z7).cell 4
  have e5 := (hBy.ext z7).cell 5
  have e6 := (hBy.ext z7).cell 6
  have e7 := (hBy.ext z7).cell 7
  have e8 := (hBy.ext z7).cell 8
  have e9 := (hBy.ext z7).cell 9
  simp only [List.getElem?_cons_zero, List.getElem?_cons_succ] at e0 e1 e2 e3 e4 e5 e6 e7 e8 e9
  go_wp2_with fail
  refine (S3.out _ z7).mono ?_
  rintro e w8 ⟨rfl, z8'⟩
  have z8 := z7.trans z8'
  replace hb4 := hb4.ext z8'
  replace hb5 := hb5.ext z8'
  clear S3 z7 z8' d0 d1 d2 d3 d4 d5 d6 d7 d8 d9 e0 e1 e2 e3 e4 e5 e6 e7 e8 e9
  have s1 := str_at hb4 c4
  have s2 := str_at hb5 c5
  clear hb4 hb5
  have xf := xW.trans z8
  have hbb : (b != b) = false := by cases b <;> rfl
  have hbe : (b == b) = true := by cases b <;> rfl
  by_cases h1 : ep = 0
  · subst h1
    by_cases h2 : eq = 0
    · subst h2
      have hs : ((bstr p).toList == (bstr q).toList) = b := by
        rw [bstr_list, bstr_list, ← HQ.out rfl rfl]
        by_cases e : p = q
        · subst e; simp
        · rw [decide_eq_false e]; simpa using e
      generalize bstr p = P at *
      generalize bstr q = Q at *
      clear HQ
      rcases b with _ | _
      all_goals
        go_wp2_with fail
        go_ret
        exact ⟨rfl, xf⟩
    · have hq := bne_t (show ((eq : Nat) : Int) ≠ 0 by omega)
      clear h2 HQ
      rcases b with _ | _
      all_goals
        go_wp2_with fail
        go_ret
        exact ⟨rfl, xf⟩
  · have hp := bne_t (show ((ep : Nat) : Int) ≠ 0 by omega)
    clear h1 HQ
    rcases b with _ | _
    all_goals
      go_wp2_with fail
      go_ret
      exact ⟨rfl, xf⟩
end Go.Proofs.Ytcoaofaofmbfbaa
