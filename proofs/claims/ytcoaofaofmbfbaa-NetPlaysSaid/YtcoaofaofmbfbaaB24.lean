/- Words and walks that the last text of this claim stands on: RqP, RqQ. No condition. -/
import Derived.Test.YtcoaofaofmbfbaaB15
import Derived.Test.YtcoaofaofmbfbaaB20
import Derived.Test.YtcoaofaofmbfbaaB21
import Derived.Test.YtcoaofaofmbfbaaB23
import Derived.Test.YtcoaofaofmbfbaaB16
/- The walks of coracleref16.number and coracleref16.Put. -/
namespace Go.Proofs.Ytcoaofaofmbfbaa
open Go.RowKit

/-- one field of a number, if it is not nought -/
def oneN (num : Nat) (m : Int) : List FV := if m = 0 then [] else [tfv num 0 m.toNat []]
theorem numF_take1 (l : List Int) (j : Nat) (h : j < l.length) : numF 1 (l.take (j + 1)) = numF 1 (l.take j) ++ oneN (j + 1) l[j] := numF_take l j h
theorem oneN_len (num : Nat) (m : Int) : (oneN num m).length ≤ 1 := by unfold oneN; split <;> simp
theorem grown_alloc {w w' : World} {o : Obj} {row : Option Nat} (h : (w.alloc o).grownBy w' row) : w.grownBy w' row := World.grownBy.trans (grownBy_ext ((Ext.refl w).alloc o) row) h
set_option maxRecDepth 100000 in
set_option maxHeartbeats 800000 in
theorem ref16_number (v : Value) (d : List FV) (num' : Int) (num : Nat) (hk : num' = num) (m : Int) (w : World) (B : Nat) (hR : OwnR w B v d) (hB : B ≤ w.heap.size) (hd : d.length ≤ 20000) (hm : 0 ≤ m) (hm' : m ≤ 4611686018427387904) :
    Calls Try.prog 57 #[v, .int .i64 num', .int .i64 m] w fun e w' => ∃ v', e = .returned v' ∧ OwnR w' B v' (d ++ oneN num m) ∧ w.grownBy w' v.ownBlock ∧ Below B w w' := by
  subst hk
  by_cases h0 : m = 0
  · subst h0
    have he : d ++ oneN num 0 = d := by unfold oneN; rw [if_pos rfl, List.append_nil]
    rw [he]
    obtain ⟨A, c, rfl, hc⟩ := own_form hR.row
    have HR := Lib.hid hR
    clear hR
    go_enter Try.func57, Try.ntmps57
    go_wp2_with fail
    go_ret
    exact ⟨_, rfl, HR.out, World.grownBy.refl _ _, Below.refl _ _⟩
  · have he : d ++ oneN num m = d ++ [tfv num 0 m.toNat []] := by unfold oneN; rw [if_neg h0]
    rw [he]
    have hb0 := beq_f h0
    obtain ⟨k, rfl⟩ : ∃ k : Nat, m = k := ⟨m.toNat, by omega⟩
    have hu : U64 k := by unfold U64; omega
    have hwr : IntKind.u64.wrap (k : Int) = k := hu.wrap
    have hrow := hR.row
    have HR := Lib.hid hR
    have H0 := Lib.hid h0
    clear hR h0 he
    go_enter Try.func57, Try.ntmps57
    go_wp2_with (at_builtin; refine wpList_app fieldsT (by omega) _ rfl rfl rfl (hrow.alloc _) rfl (rd_at4 _ (.int .i64 num) (.int .i64 0) (.int .u64 k) (.slice none 0 0) _ _ (by simp)) (fcells_one _ _ _ _ _ _) (by unfold maxLen; omega) (by omega) (by simp; omega) ?_; intro v1 w1 hown1 hg1 hat1)
    have x1 := Below.app (Below.alloc (Below.refl B w) hB _) hg1 (by simp; omega) (hrow.alloc _) (Nat.le_refl _)
    have hR1 := (HR.out.ext ((Ext.refl w).alloc (.cells #[.int .i64 num, .int .i64 0, .int .u64 k, .slice none 0 0] 75))).app (f := tfv num 0 k []) ⟨World.ownsRow_nil _ _ _ _, hu⟩ hg1 hown1
    go_wp2_with fail
    go_ret
    exact ⟨_, rfl, by simpa using hR1, grown_alloc hg1, x1⟩

set_option maxRecDepth 100000 in
set_option maxHeartbeats 800000 in
theorem ref16_Put_bad (x : LV) (A : Option Addr) (n c : Nat) (w : World) (hx : x.Ok w) (hn : x.n ≤ 20000) (hm : mayB x = false) :
    Calls Try.prog 21 #[x.val, .slice A n c] w fun e w' => e = .returned (.tuple #[.slice none 0 0, .int .i64 1]) ∧ Ext w w' := by
  have HM := Lib.hid (fun (W : World) (h : Ext w W) => ref16_May x W (hx.ext h) hn)
  rw [mayR_f hm] at HM
  unfold LV.val at HM ⊢
  clear hm hx
  go_enter Try.func21, Try.ntmps21
  go_wp2_with fail
  refine (HM.out _ ((Ext.refl w).alloc _)).mono ?_
  rintro e w1 ⟨rfl, x1⟩
  have xw1 := ((Ext.refl w).alloc _).trans x1
  clear HM
  go_wp2_with fail
  go_ret2
  exact ⟨rfl, xw1⟩
set_option maxRecDepth 100000 in
set_option maxHeartbeats 800000 in
theorem ref16_Put_low (x : LV) (A : Option Addr) (n c : Nat) (rest : List FV) (w : World) (hx : x.Ok w) (hxn : x.n ≤ 20000) (hm : mayB x = true) (hf : Fs w A n rest) (hn : n ≤ 19000) (hl : lowB rest = true) :
    Calls Try.prog 21 #[x.val, .slice A n c] w fun e w' => e = .returned (.tuple #[.slice none 0 0, .int .i64 6]) ∧ Ext w w' := by
  have HM := Lib.hid (fun (W : World) (h : Ext w W) => ref16_May x W (hx.ext h) hxn)
  rw [mayR_t hm] at HM
  have hlen := hf.len
  have HL := Lib.hid hl
  have CT := Lib.hid (fun w => ref04_Top 6 1 w)
  rw [top6] at CT
  unfold LV.val at HM ⊢
  clear hm hx hl
  go_enter Try.func21, Try.ntmps21
  go_wp2_with fail
  refine (HM.out _ ((Ext.refl w).alloc _)).mono ?_
  rintro e w1 ⟨rfl, x1⟩
  have xw1 := ((Ext.refl w).alloc _).trans x1
  clear HM x1
  go_wp2_with fail
  go_loopw [7] (fun i wr => ∃ j : Nat, i = .int .i64 j ∧ j ≤ n ∧ Hid (lowB (rest.take j) = false) ∧ Ext w wr) (fun i _ => n - (intOf i).toNat)
  case atStart => exact ⟨0, rfl, by omega, Lib.hid rfl, xw1⟩
  case round =>
    clear xw1
    obtain ⟨j, rfl, hj, HJ, hxr⟩ := hrel
    by_cases hjn : j < n
    · have hjl : j < rest.length := by omega
      obtain ⟨b, off, rfl, hc0, hc1, hc2, hc3⟩ := (hf.ext hxr).at_ hjn
      have Hsn := Lib.hid (low_snoc rest j hjl)
      generalize rest[j] = f at *
      have hj0 : (0 : Int) ≤ j := by omega
      have hj1 : (j : Int) < n := by omega
      by_cases h10 : f.num ≤ 10
      · go_upto_region 7 with fail
        go_region_held3 (fun w' => w'.cell? ⟨b, off + j * 4, none⟩ = some (.int .i64 f.num))
          (first | go_keep | (exact y1.cell hc0))
          (first | (go_at_call 56; refine (CT.out _).mono ?_; rintro e w2 ⟨rfl, y1⟩))
        go_wp2_with fail
        go_ret2
        exact ⟨rfl, (hxr.drew).trans y1⟩
      · have h10' : 10 < f.num := by omega
        have H10 := Lib.hid h10
        clear h10
        go_upto_region 7 with fail
        go_region_held3 (fun w' => w'.cell? ⟨b, off + j * 4, none⟩ = some (.int .i64 f.num))
          (first | go_keep | (exact y1.cell hc0))
          (first | (go_at_call 56; refine (CT.out _).mono ?_; rintro e w2 ⟨rfl, y1⟩))
        go_wp2_with fail
        go_roundw
        case rel => exact ⟨j + 1, val_int (by omega), by omega, Lib.hid (by rw [Hsn.out, HJ.out]; simpa using H10.out), (hxr.drew).trans y1⟩
        case measure => simp [intOf]; omega
    · exfalso
      have e := HJ.out
      rw [List.take_of_length_le (by omega), HL.out] at e
      cases e

set_option maxRecDepth 100000 in
set_option maxHeartbeats 3200000 in
theorem ref16_Put_ok (x : LV) (A' : Option Addr) (m c' : Nat) (rest : List FV) (w : World) (hx : x.Ok w) (hxn : x.n ≤ 20000) (hm : mayB x = true) (hf : Fs w A' m rest) (hn : m ≤ 19000) (hl : lowB rest = false) :
    Calls Try.prog 21 #[x.val, .slice A' m c'] w fun e w' => ∃ v, e = .returned (.tuple #[v, .int .i64 (lput x rest).2]) ∧ w'.ownsRow w.heap.size 5 1 v (lput x rest).1.length ((lput x rest).1.map bv) ∧ Ext w w' := by
  have HP : Hid (lput x rest = if fmay (numF 1 (letN x) ++ many x.l ++ rest) = 0 then (rput (numF 1 (letN x) ++ many x.l ++ rest), 0) else ([], fmay (numF 1 (letN x) ++ many x.l ++ rest))) := Lib.hid (by
    unfold lput; rw [if_neg (by simp [hm]), if_neg (by simp [hl])]; rfl)
  have hbd := letN_bd hm
  obtain ⟨_, p2, p3, _, p4, p5, p6, p7, p8, p9, p10⟩ := mayB_parts hm
  have hent := entsB_ok p10 (fun y hy => (hx.es.ok y hy).bs.len)
  have HM := Lib.hid (fun (W : World) (h : Ext w W) => ref16_May x W (hx.ext h) hxn)
  rw [mayR_t hm] at HM
  have hlen := hf.len
  have hes := hx.es
  have hle := hes.len
  have hall := low_all hl
  have CT := Lib.hid (fun w => ref04_Top 6 1 w)
  rw [top6] at CT
  clear hm hx hl p10
  generalize lput x rest = LP at *
  obtain ⟨kind, src, dst, term, la, lb, lc, bin, ok, A, n, cp, l⟩ := x
  unfold LV.val at HM ⊢
  dsimp only [letN] at HM HP hbd p2 p3 p4 p5 p6 p7 p8 p9 hent hes hle ⊢
  have hB := Blk.new w 26 [.int .i64 kind, .int .i64 src, .int .i64 dst, .int .i64 term, .int .i64 la, .int .i64 lb, .int .i64 lc, .int .i64 bin, .bool ok, .slice A n cp]
  have hx0 : Ext w (w.alloc (.cells #[.int .i64 kind, .int .i64 src, .int .i64 dst, .int .i64 term, .int .i64 la, .int .i64 lb, .int .i64 lc, .int .i64 bin, .bool ok, .slice A n cp] 26)) := (Ext.refl w).alloc _
  have HBD := Lib.hid hbd
  clear hbd
  go_enter Try.func21, Try.ntmps21
  go_wp2_with fail
  refine (HM.out _ hx0).mono ?_
  rintro e w1 ⟨rfl, x1⟩
  have xw1 := hx0.trans x1
  replace hB := hB.ext x1
  clear HM x1 hx0
  have HB := Lib.hid hB
  clear hB
  go_wp2_with fail
  go_loopw [7] (fun i wr => ∃ j : Nat, i = .int .i64 j ∧ j ≤ m ∧ Ext w wr ∧ Blk wr w.heap.size 26 [.int .i64 kind, .int .i64 src, .int .i64 dst, .int .i64 term, .int .i64 la, .int .i64 lb, .int .i64 lc, .int .i64 bin, .bool ok, .slice A n cp]) (fun i _ => m - (intOf i).toNat)
  case atStart => exact ⟨0, rfl, by omega, xw1, HB.out⟩
  case round =>
    clear xw1 HB
    obtain ⟨j, rfl, hj, hxr, hB⟩ := hrel
    by_cases hjn : j < m
    · have hjl : j < rest.length := by omega
      obtain ⟨b, off, rfl, hc0, hc1, hc2, hc3⟩ := (hf.ext hxr).at_ hjn
      have h10 := hall rest[j] (List.getElem_mem _)
      generalize rest[j] = f at *
      have hj0 : (0 : Int) ≤ j := by omega
      have hj1 : (j : Int) < m := by omega
      have HB := Lib.hid hB
      clear hB
      go_upto_region 7 with fail
      go_region_held3 (fun w' => w'.cell? ⟨b, off + j * 4, none⟩ = some (.int .i64 f.num))
        (first | go_keep | (exact y1.cell hc0))
        (first | (go_at_call 56; refine (CT.out _).mono ?_; rintro e w2 ⟨rfl, y1⟩))
      go_wp2_with fail
      go_roundw
      case rel => exact ⟨j + 1, val_int (by omega), by omega, (hxr.drew).trans y1, (HB.out.drew).ext y1⟩
      case measure => simp [intOf]; omega
    · obtain rfl : m = j := by omega
      have d0 := hB.cell 0
      have d1 := hB.cell 1
      have d2 := hB.cell 2
      have d3 := hB.cell 3
      have d4 := hB.cell 4
      have d5 := hB.cell 5
      have d6 := hB.cell 6
      have d7 := hB.cell 7
      have d8 := hB.cell 8
      simp only [List.getElem?_cons_zero, List.getElem?_cons_succ] at d0 d1 d2 d3 d4 d5 d6 d7 d8
      have HB := Lib.hid hB
      obtain ⟨wo, rfl⟩ : ∃ wo : World, wo = wr := ⟨_, rfl⟩
      clear hB
      rcases ok with _ | _
      · simp only [if_false, Bool.false_eq_true] at HBD HP
        go_upto_region 13 with fail
        have hI : Blk (wo.alloc (.cells #[.int .i64 kind, .int .i64 (src + 1), .int .i64 (dst + 1), .int .i64 term, .int .i64 bin, .int .i64 la, .int .i64 lb, .int .i64 lc, .int .i64 0] 3)) wo.heap.size 3 ([kind, src + 1, dst + 1, term, bin, la, lb, lc, 0].map (Value.int .i64)) := Blk.new wo 3 [.int .i64 kind, .int .i64 (src + 1), .int .i64 (dst + 1), .int .i64 term, .int .i64 bin, .int .i64 la, .int .i64 lb, .int .i64 lc, .int .i64 0]
        have hx2 := hxr.alloc (.cells #[.int .i64 kind, .int .i64 (src + 1), .int .i64 (dst + 1), .int .i64 term, .int .i64 bin, .int .i64 la, .int .i64 lb, .int .i64 lc, .int .i64 0] 3)
        have HB2 := Lib.hid (HB.out.alloc (.cells #[.int .i64 kind, .int .i64 (src + 1), .int .i64 (dst + 1), .int .i64 term, .int .i64 bin, .int .i64 la, .int .i64 lb, .int .i64 lc, .int .i64 0] 3))
        clear HB hxr d0 d1 d2 d3 d4 d5 d6 d7 d8
        generalize wo.alloc (.cells #[.int .i64 kind, .int .i64 (src + 1), .int .i64 (dst + 1), .int .i64 term, .int .i64 bin, .int .i64 la, .int .i64 lb, .int .i64 lc, .int .i64 0] 3) = W at hI hx2 HB2 ⊢
        generalize wo.heap.size = gN at hI ⊢
        obtain ⟨LL, hLL⟩ : ∃ LL : List Int, LL = [kind, src + 1, dst + 1, term, bin, la, lb, lc, 0] := ⟨_, rfl⟩
        have hL9 : LL.length = 9 := by rw [hLL]; rfl
        rw [← hLL] at hI HP HBD
        clear hLL
        have hwW := hx2.size
        have h0 : OwnR (W.alloc (.cells #[] 75)) w.heap.size (.slice (some ⟨W.heap.size, 0, none⟩) 0 0) [] := ⟨own_base (own_empty W 75 4) hwW, by simp⟩
        have H0 := Lib.hid h0
        clear h0
        go_wp2_with fail
        go_loopw [10, 11] (fun v i wr => ∃ j : Nat, i = .int .i64 j ∧ j ≤ 9 ∧ OwnR wr w.heap.size v (numF 1 (LL.take j)) ∧ Blk wr gN 3 (LL.map (Value.int .i64)) ∧ Ext w wr ∧ Blk wr w.heap.size 26 [.int .i64 kind, .int .i64 src, .int .i64 dst, .int .i64 term, .int .i64 la, .int .i64 lb, .int .i64 lc, .int .i64 bin, .bool false, .slice A n cp]) (fun _ i _ => 9 - (intOf i).toNat)
        case atStart => exact ⟨0, rfl, by omega, by simpa [numF] using H0.out, hI.alloc _, hx2.alloc _, HB2.out.alloc _⟩
        case round =>
          clear H0 hI hx2 HB2
          obtain ⟨j, rfl, hj, hR, hI, hx, hB⟩ := hrel
          obtain ⟨v10, rfl⟩ : ∃ v10 : Value, v10 = u10 := ⟨_, rfl⟩
          by_cases hj9 : j < 9
          · have hjl : j < LL.length := by omega
            have hc := hI.cell j
            rw [List.getElem?_map, List.getElem?_eq_getElem hjl] at hc
            simp only [Option.map_some] at hc
            have Hsn := Lib.hid (numF_take1 LL j hjl)
            have hb := HBD.out LL[j] (List.getElem_mem _)
            have hnl := numF_len (LL.take j) 1
            rw [List.length_take] at hnl
            have hj0 : (0 : Int) ≤ j := by omega
            generalize LL[j] = x at *
            have HC := Lib.hid (ref16_number v10 _ ((j : Int) + 1) (j + 1) rfl x wr w.heap.size hR hx.size (by omega) hb.1 hb.2)
            have HI := Lib.hid hI
            have HBB := Lib.hid hB
            have hne1 := own_blk_ne hR.row hI (by decide)
            have hne2 := own_blk_ne hR.row hB (by decide)
            clear hI hB hR hb hnl
            go_wp2_with fail
            refine HC.out.mono ?_
            rintro e w3 ⟨v3, rfl, hR3, hg3, x3⟩
            go_wp2_with fail
            go_roundw
            case rel => exact ⟨j + 1, val_int (by omega), by omega, by rw [Hsn.out]; exact hR3, HI.out.grown hg3 (Ne.symm hne1), Below.trans hx x3, HBB.out.grown hg3 (Ne.symm hne2)⟩
            case measure => simp [intOf]; omega
          · rw [List.take_of_length_le (by omega)] at hR
            have hj9i : ¬ ((j : Int) < 9) := by omega
            have HH := Lib.hid hx
            have hN9 := numF_len LL 1
            have HRR := Lib.hid hR
            have HB3 := Lib.hid hB
            have hlen9 : (numF 1 LL).length ≤ 9 := by omega
            clear hI hR hN9 hB HBD
            generalize numF 1 LL = N at *
            go_wp2_with fail
            go_loopw [10, 12] (fun v i wr => ∃ j : Nat, i = .int .i64 j ∧ j ≤ n ∧ (∃ d : List FV, d.map FV.s = (N ++ many (l.take j)).map FV.s ∧ OwnR wr w.heap.size v d) ∧ Blk wr w.heap.size 26 [.int .i64 kind, .int .i64 src, .int .i64 dst, .int .i64 term, .int .i64 la, .int .i64 lb, .int .i64 lc, .int .i64 bin, .bool false, .slice A n cp] ∧ Ext w wr) (fun _ i _ => n - (intOf i).toNat)
            case atStart => exact ⟨0, rfl, by omega, ⟨N, by simp [many], HRR.out⟩, HB3.out, HH.out⟩
            case round =>
              clear HH HRR HB3 hx
              obtain ⟨j, rfl, hj, ⟨d, hds, hR⟩, hB, hx⟩ := hrel
              obtain ⟨v11, rfl⟩ : ∃ v11 : Value, v11 = u10 := ⟨_, rfl⟩
              have hdl : d.length = N.length + (many (l.take j)).length := by have := congrArg List.length hds; simpa using this
              have hmj : (many (l.take j)).length ≤ 900 := by unfold many; rw [List.length_map, List.length_take]; omega
              have HDS := Lib.hid hds
              have hd2 : d.length ≤ 909 := by omega
              have d9 := hB.cell 9
              simp only [List.getElem?_cons_zero, List.getElem?_cons_succ] at d9
              clear hds hdl hmj
              by_cases hjn : j < n
              · have hjl : j < l.length := by omega
                obtain ⟨b, off, rfl, hc0, hc1⟩ := (hes.ext hx).at_ hjn
                have hyok := (hes.ext hx).ok l[j] (List.getElem_mem _)
                have hye := hent l[j] (List.getElem_mem _)
                have Hsn := Lib.hid (many_take l j hjl)
                generalize l[j] = y at *
                have hj0 : (0 : Int) ≤ j := by omega
                have hj1 : (j : Int) < n := by omega
                have hs := entM_s hyok.bs.len
                have hm := s_may hs
                rw [(ent_may hye).1] at hm
                have hr := s_rput hs
                have hbl := hyok.bs.len
                have h200 := hye.b
                have ht1 := hye.t1
                have ht2 := hye.t2
                have h224 := (ent_may hye).2
                have hcap := hyok.cap
                have hle2 := hyok.le
                have HM := Lib.hid hm
                have HR := Lib.hid hr
                have HN1 := Lib.hid (numF_one ht1)
                have Hfalse := Lib.hid (entM_ok hyok hye)
                have HNU := Lib.hid (ref16_number (.slice none 0 0) [] 1 1 rfl y.term wr wr.heap.size ⟨World.ownsRow_nil _ _ _ _, by simp⟩ (Nat.le_refl _) (by simp) (by omega) (by omega))
                rw [show [] ++ oneN 1 y.term = numF 1 [y.term] by rw [numF_cons]; simp [oneN, numF]] at HNU
                clear hm hr hs hye hyok
                have hlen2 : y.len ≤ 200 := by omega
                go_wp2_with fail
                refine HNU.out.mono ?_
                rintro e w3 ⟨v3, rfl, hR3, _, x3⟩
                obtain ⟨A3, c3, rfl, _⟩ := own_form hR3.row
                rw [HN1.out] at hR3 ⊢
                have x3 : Ext wr w3 := x3
                have e0 := x3.cell hc0
                have e1 := x3.cell hc1
                have e9 := x3.cell d9
                clear HNU
                by_cases h0 : y.len = 0
                · have hnil : y.b = [] := List.eq_nil_of_length_eq_zero (by omega)
                  have HE : Hid (entM y = numF 1 [y.term]) := Lib.hid (by unfold entM; rw [if_pos hnil, List.append_nil])
                  have hgt : ¬ ((0 : Int) < y.len) := by omega
                  have H0 := Lib.hid h0
                  clear h0 hnil
                  go_wp2_with fail
                  refine (ref03_Put_ok _ _ _ (numF 1 [y.term]) w3 (hR3.fs HN1.out.symm) (by omega) (by rw [← HE.out]; exact HM.out)).mono ?_
                  rintro e w5 ⟨v5, rfl, hown5, x5⟩
                  rw [← HE.out, HR.out] at hown5
                  generalize rput (entF y) = bs at *
                  obtain ⟨A5, c5, rfl, _⟩ := own_form hown5
                  have x05 := x3.trans x5
                  have hR5 := hR.ext x05
                  have hx5 := hx.trans x05
                  have hB5 := hB.ext x05
                  have hf5 : OwnF w5 w.heap.size ⟨10, 2, 0, A5, bs.length, c5, bs⟩ := ⟨own_base hown5 (by have := hx.size; have := x3.size; omega), show (0 : Nat) < 18446744073709551616 by decide⟩
                  have hsz5 := hx5.size
                  have hne5 := own_blk_ne hR5.row hB5 (by decide)
                  have HB5 := Lib.hid hB5
                  clear hR3 hown5 x5 x05 hR hB hc0 hc1 d9 hB5
                  go_wp2_with (at_builtin; refine wpList_app fieldsT (by omega) _ rfl rfl rfl (hR5.row.alloc _) rfl (rd_at4 _ (.int .i64 10) (.int .i64 2) (.int .u64 0) (.slice A5 bs.length c5) _ _ (by simp)) (fcells_one 10 2 0 _ _ _) (by unfold maxLen; omega) (by omega) (by simp; omega) ?_; intro v6 w6 hown6 hg6 hat6)
                  have x6 := Below.app (hx5.alloc _) hg6 (by simp; omega) (hR5.row.alloc _) (Nat.le_refl _)
                  have hR6 := (hR5.ext ((Ext.refl w5).alloc _)).app (hf5.ext ((Ext.refl w5).alloc _)) hg6 hown6
                  go_roundw
                  case rel => exact ⟨j + 1, val_int (by omega), by omega, ⟨_, by rw [List.map_append, HDS.out, Hsn.out, ← List.append_assoc, List.map_append (l₂ := [tfv 10 2 0 bs])]; rfl, hR6⟩, (HB5.out.alloc _).grown hg6 (Ne.symm hne5), x6⟩
                  case measure => simp [intOf]; omega
                · have hnil : y.b ≠ [] := by intro e; rw [e] at hbl; simp at hbl; omega
                  have HE : Hid (entM y = numF 1 [y.term] ++ [⟨2, 2, 0, y.A, y.len, y.cap, y.b⟩]) := Lib.hid (by unfold entM; rw [if_neg hnil])
                  have hgt : (0 : Int) < y.len := by omega
                  have H0 := Lib.hid h0
                  have hrow3 := hR3.row
                  rw [HN1.out] at hrow3
                  clear h0 hnil
                  go_wp2_with (at_builtin; refine wpList_app fieldsT (by omega) _ rfl rfl rfl (hrow3.alloc _) rfl (rd_at4 _ (.int .i64 2) (.int .i64 2) (.int .u64 0) (.slice y.A y.len y.cap) _ _ (by simp)) (fcells_one 2 2 0 _ _ _) (by unfold maxLen; omega) (by omega) (by have := x3.size; simp; omega) ?_; intro v4 w4 hown4 hg4 hat4; have x4 := Below.app (x3.alloc _) hg4 (by have := x3.size; simp; omega) (hrow3.alloc _) (Nat.le_refl _); obtain ⟨A4, c4, rfl, _⟩ := own_form hown4)
                  have x34 : Ext wr w4 := x4
                  have hfs4 : Fs w4 A4 (1 + 1) (entM y) := by
                    rw [HE.out]
                    refine Fs.of_own (own_to hown4 (Nat.le_refl _) rfl ?_) ?_
                    · rw [rowOf_append, rowOf_one]; rfl
                    · rw [← HE.out]; exact fun f hf => (Hfalse.out f hf).ext x34
                  clear e0 e1 e9 hrow3
                  refine (ref03_Put_ok _ _ _ (entM y) w4 hfs4 (by omega) HM.out).mono ?_
                  rintro e w5 ⟨v5, rfl, hown5, x5⟩
                  rw [HR.out] at hown5
                  generalize rput (entF y) = bs at *
                  obtain ⟨A5, c5, rfl, _⟩ := own_form hown5
                  have x05 := x34.trans x5
                  have hR5 := hR.ext x05
                  have hx5 := hx.trans x05
                  have hB5 := hB.ext x05
                  have hf5 : OwnF w5 w.heap.size ⟨10, 2, 0, A5, bs.length, c5, bs⟩ := ⟨own_base hown5 (by have := hx.size; have := x34.size; omega), show (0 : Nat) < 18446744073709551616 by decide⟩
                  have hsz5 := hx5.size
                  have hne5 := own_blk_ne hR5.row hB5 (by decide)
                  have HB5 := Lib.hid hB5
                  clear hR3 hfs4 hown4 hg4 hat4 x4 x3 hown5 x5 x05 hR hB hc0 hc1 d9 hB5
                  go_wp2_with (at_builtin; refine wpList_app fieldsT (by omega) _ rfl rfl rfl (hR5.row.alloc _) rfl (rd_at4 _ (.int .i64 10) (.int .i64 2) (.int .u64 0) (.slice A5 bs.length c5) _ _ (by simp)) (fcells_one 10 2 0 _ _ _) (by unfold maxLen; omega) (by omega) (by simp; omega) ?_; intro v6 w6 hown6 hg6 hat6)
                  have x6 := Below.app (hx5.alloc _) hg6 (by simp; omega) (hR5.row.alloc _) (Nat.le_refl _)
                  have hR6 := (hR5.ext ((Ext.refl w5).alloc _)).app (hf5.ext ((Ext.refl w5).alloc _)) hg6 hown6
                  go_roundw
                  case rel => exact ⟨j + 1, val_int (by omega), by omega, ⟨_, by rw [List.map_append, HDS.out, Hsn.out, ← List.append_assoc, List.map_append (l₂ := [tfv 10 2 0 bs])]; rfl, hR6⟩, (HB5.out.alloc _).grown hg6 (Ne.symm hne5), x6⟩
                  case measure => simp [intOf]; omega
              · obtain rfl : n = j := by omega
                have HDS2 : Hid (d.map FV.s = (N ++ many l).map FV.s) := Lib.hid (by rw [HDS.out, List.take_of_length_le (by omega)])
                have hfr := hf.ext hx
                clear hB
                go_wp2_with (at_builtin; refine wpList_app fieldsT (by omega) _ rfl rfl rfl hR.row rfl hfr.rd (rowOf_cells _) (by unfold maxLen; omega) (by omega) hx.size ?_; intro v5 w5 hown5 hg5 hat5; have x5 := Below.app hx hg5 hx.size hR.row (Nat.le_refl _); obtain ⟨A5, c5, rfl, _⟩ := own_form hown5)
                have hfs : Fs w5 A5 (d.length + m) (d ++ rest) := by
                  refine Fs.of_own (own_to hown5 (Nat.le_refl _) rfl (by rw [rowOf_append])) ?_
                  intro g hg
                  rcases List.mem_append.1 hg with hg | hg
                  · exact ((hR.own g hg).grown hR.row hg5).ok
                  · exact (hf.ok g hg).ext x5
                have hs : (d ++ rest).map FV.s = (N ++ many l ++ rest).map FV.s := by
                  rw [List.map_append, HDS2.out, ← List.map_append]
                have h1 := s_may hs
                have h2 := s_rput hs
                have HQ2 := HP.out
                rw [← h1, ← h2] at HQ2
                have HQ3 := Lib.hid HQ2
                have Hlen : (d ++ rest).length ≤ 20000 := by rw [List.length_append]; omega
                clear hs h1 h2 HQ2 HP hown5 hg5 hat5 hR
                generalize d ++ rest = D at *
                by_cases hz : fmay D = 0
                · have HZ := Lib.hid hz
                  clear hz
                  refine (ref03_Put_ok _ _ _ D _ hfs (by omega) HZ.out).mono ?_
                  rintro e w6 ⟨v6, rfl, hown6, x6⟩
                  go_wp2
                  go_ret2
                  rw [HQ3.out, if_pos HZ.out]
                  exact ⟨_, rfl, own_base hown6 x5.size, Ext.trans x5 x6⟩
                · have HZ := Lib.hid hz
                  clear hz
                  refine (ref03_Put_no _ _ _ D _ hfs (by omega) HZ.out).mono ?_
                  rintro e w6 ⟨rfl, x6⟩
                  go_wp2
                  go_ret2
                  rw [HQ3.out, if_neg HZ.out]
                  exact ⟨_, rfl, World.ownsRow_nil _ _ _ _, Ext.trans x5 x6⟩
      · simp only [if_true] at HBD HP
        go_upto_region 13 with fail
        have hI : Blk (wo.alloc (.cells #[.int .i64 kind, .int .i64 (src + 1), .int .i64 (dst + 1), .int .i64 term, .int .i64 bin, .int .i64 la, .int .i64 lb, .int .i64 lc, .int .i64 1] 3)) wo.heap.size 3 ([kind, src + 1, dst + 1, term, bin, la, lb, lc, 1].map (Value.int .i64)) := Blk.new wo 3 [.int .i64 kind, .int .i64 (src + 1), .int .i64 (dst + 1), .int .i64 term, .int .i64 bin, .int .i64 la, .int .i64 lb, .int .i64 lc, .int .i64 1]
        have hx2 := hxr.alloc (.cells #[.int .i64 kind, .int .i64 (src + 1), .int .i64 (dst + 1), .int .i64 term, .int .i64 bin, .int .i64 la, .int .i64 lb, .int .i64 lc, .int .i64 1] 3)
        have HB2 := Lib.hid (HB.out.alloc (.cells #[.int .i64 kind, .int .i64 (src + 1), .int .i64 (dst + 1), .int .i64 term, .int .i64 bin, .int .i64 la, .int .i64 lb, .int .i64 lc, .int .i64 1] 3))
        clear HB hxr d0 d1 d2 d3 d4 d5 d6 d7 d8
        generalize wo.alloc (.cells #[.int .i64 kind, .int .i64 (src + 1), .int .i64 (dst + 1), .int .i64 term, .int .i64 bin, .int .i64 la, .int .i64 lb, .int .i64 lc, .int .i64 1] 3) = W at hI hx2 HB2 ⊢
        generalize wo.heap.size = gN at hI ⊢
        obtain ⟨LL, hLL⟩ : ∃ LL : List Int, LL = [kind, src + 1, dst + 1, term, bin, la, lb, lc, 1] := ⟨_, rfl⟩
        have hL9 : LL.length = 9 := by rw [hLL]; rfl
        rw [← hLL] at hI HP HBD
        clear hLL
        have hwW := hx2.size
        have h0 : OwnR (W.alloc (.cells #[] 75)) w.heap.size (.slice (some ⟨W.heap.size, 0, none⟩) 0 0) [] := ⟨own_base (own_empty W 75 4) hwW, by simp⟩
        have H0 := Lib.hid h0
        clear h0
        go_wp2_with fail
        go_loopw [10, 11] (fun v i wr => ∃ j : Nat, i = .int .i64 j ∧ j ≤ 9 ∧ OwnR wr w.heap.size v (numF 1 (LL.take j)) ∧ Blk wr gN 3 (LL.map (Value.int .i64)) ∧ Ext w wr ∧ Blk wr w.heap.size 26 [.int .i64 kind, .int .i64 src, .int .i64 dst, .int .i64 term, .int .i64 la, .int .i64 lb, .int .i64 lc, .int .i64 bin, .bool true, .slice A n cp]) (fun _ i _ => 9 - (intOf i).toNat)
        case atStart => exact ⟨0, rfl, by omega, by simpa [numF] using H0.out, hI.alloc _, hx2.alloc _, HB2.out.alloc _⟩
        case round =>
          clear H0 hI hx2 HB2
          obtain ⟨j, rfl, hj, hR, hI, hx, hB⟩ := hrel
          obtain ⟨v10, rfl⟩ : ∃ v10 : Value, v10 = u10 := ⟨_, rfl⟩
          by_cases hj9 : j < 9
          · have hjl : j < LL.length := by omega
            have hc := hI.cell j
            rw [List.getElem?_map, List.getElem?_eq_getElem hjl] at hc
            simp only [Option.map_some] at hc
            have Hsn := Lib.hid (numF_take1 LL j hjl)
            have hb := HBD.out LL[j] (List.getElem_mem _)
            have hnl := numF_len (LL.take j) 1
            rw [List.length_take] at hnl
            have hj0 : (0 : Int) ≤ j := by omega
            generalize LL[j] = x at *
            have HC := Lib.hid (ref16_number v10 _ ((j : Int) + 1) (j + 1) rfl x wr w.heap.size hR hx.size (by omega) hb.1 hb.2)
            have HI := Lib.hid hI
            have HBB := Lib.hid hB
            have hne1 := own_blk_ne hR.row hI (by decide)
            have hne2 := own_blk_ne hR.row hB (by decide)
            clear hI hB hR hb hnl
            go_wp2_with fail
            refine HC.out.mono ?_
            rintro e w3 ⟨v3, rfl, hR3, hg3, x3⟩
            go_wp2_with fail
            go_roundw
            case rel => exact ⟨j + 1, val_int (by omega), by omega, by rw [Hsn.out]; exact hR3, HI.out.grown hg3 (Ne.symm hne1), Below.trans hx x3, HBB.out.grown hg3 (Ne.symm hne2)⟩
            case measure => simp [intOf]; omega
          · rw [List.take_of_length_le (by omega)] at hR
            have hj9i : ¬ ((j : Int) < 9) := by omega
            have HH := Lib.hid hx
            have hN9 := numF_len LL 1
            have HRR := Lib.hid hR
            have HB3 := Lib.hid hB
            have hlen9 : (numF 1 LL).length ≤ 9 := by omega
            clear hI hR hN9 hB HBD
            generalize numF 1 LL = N at *
            go_wp2_with fail
            go_loopw [10, 12] (fun v i wr => ∃ j : Nat, i = .int .i64 j ∧ j ≤ n ∧ (∃ d : List FV, d.map FV.s = (N ++ many (l.take j)).map FV.s ∧ OwnR wr w.heap.size v d) ∧ Blk wr w.heap.size 26 [.int .i64 kind, .int .i64 src, .int .i64 dst, .int .i64 term, .int .i64 la, .int .i64 lb, .int .i64 lc, .int .i64 bin, .bool true, .slice A n cp] ∧ Ext w wr) (fun _ i _ => n - (intOf i).toNat)
            case atStart => exact ⟨0, rfl, by omega, ⟨N, by simp [many], HRR.out⟩, HB3.out, HH.out⟩
            case round =>
              clear HH HRR HB3 hx
              obtain ⟨j, rfl, hj, ⟨d, hds, hR⟩, hB, hx⟩ := hrel
              obtain ⟨v11, rfl⟩ : ∃ v11 : Value, v11 = u10 := ⟨_, rfl⟩
              have hdl : d.length = N.length + (many (l.take j)).length := by have := congrArg List.length hds; simpa using this
              have hmj : (many (l.take j)).length ≤ 900 := by unfold many; rw [List.length_map, List.length_take]; omega
              have HDS := Lib.hid hds
              have hd2 : d.length ≤ 909 := by omega
              have d9 := hB.cell 9
              simp only [List.getElem?_cons_zero, List.getElem?_cons_succ] at d9
              clear hds hdl hmj
              by_cases hjn : j < n
              · have hjl : j < l.length := by omega
                obtain ⟨b, off, rfl, hc0, hc1⟩ := (hes.ext hx).at_ hjn
                have hyok := (hes.ext hx).ok l[j] (List.getElem_mem _)
                have hye := hent l[j] (List.getElem_mem _)
                have Hsn := Lib.hid (many_take l j hjl)
                generalize l[j] = y at *
                have hj0 : (0 : Int) ≤ j := by omega
                have hj1 : (j : Int) < n := by omega
                have hs := entM_s hyok.bs.len
                have hm := s_may hs
                rw [(ent_may hye).1] at hm
                have hr := s_rput hs
                have hbl := hyok.bs.len
                have h200 := hye.b
                have ht1 := hye.t1
                have ht2 := hye.t2
                have h224 := (ent_may hye).2
                have hcap := hyok.cap
                have hle2 := hyok.le
                have HM := Lib.hid hm
                have HR := Lib.hid hr
                have HN1 := Lib.hid (numF_one ht1)
                have Htrue := Lib.hid (entM_ok hyok hye)
                have HNU := Lib.hid (ref16_number (.slice none 0 0) [] 1 1 rfl y.term wr wr.heap.size ⟨World.ownsRow_nil _ _ _ _, by simp⟩ (Nat.le_refl _) (by simp) (by omega) (by omega))
                rw [show [] ++ oneN 1 y.term = numF 1 [y.term] by rw [numF_cons]; simp [oneN, numF]] at HNU
                clear hm hr hs hye hyok
                have hlen2 : y.len ≤ 200 := by omega
                go_wp2_with fail
                refine HNU.out.mono ?_
                rintro e w3 ⟨v3, rfl, hR3, _, x3⟩
                obtain ⟨A3, c3, rfl, _⟩ := own_form hR3.row
                rw [HN1.out] at hR3 ⊢
                have x3 : Ext wr w3 := x3
                have e0 := x3.cell hc0
                have e1 := x3.cell hc1
                have e9 := x3.cell d9
                clear HNU
                by_cases h0 : y.len = 0
                · have hnil : y.b = [] := List.eq_nil_of_length_eq_zero (by omega)
                  have HE : Hid (entM y = numF 1 [y.term]) := Lib.hid (by unfold entM; rw [if_pos hnil, List.append_nil])
                  have hgt : ¬ ((0 : Int) < y.len) := by omega
                  have H0 := Lib.hid h0
                  clear h0 hnil
                  go_wp2_with fail
                  refine (ref03_Put_ok _ _ _ (numF 1 [y.term]) w3 (hR3.fs HN1.out.symm) (by omega) (by rw [← HE.out]; exact HM.out)).mono ?_
                  rintro e w5 ⟨v5, rfl, hown5, x5⟩
                  rw [← HE.out, HR.out] at hown5
                  generalize rput (entF y) = bs at *
                  obtain ⟨A5, c5, rfl, _⟩ := own_form hown5
                  have x05 := x3.trans x5
                  have hR5 := hR.ext x05
                  have hx5 := hx.trans x05
                  have hB5 := hB.ext x05
                  have hf5 : OwnF w5 w.heap.size ⟨10, 2, 0, A5, bs.length, c5, bs⟩ := ⟨own_base hown5 (by have := hx.size; have := x3.size; omega), show (0 : Nat) < 18446744073709551616 by decide⟩
                  have hsz5 := hx5.size
                  have hne5 := own_blk_ne hR5.row hB5 (by decide)
                  have HB5 := Lib.hid hB5
                  clear hR3 hown5 x5 x05 hR hB hc0 hc1 d9 hB5
                  go_wp2_with (at_builtin; refine wpList_app fieldsT (by omega) _ rfl rfl rfl (hR5.row.alloc _) rfl (rd_at4 _ (.int .i64 10) (.int .i64 2) (.int .u64 0) (.slice A5 bs.length c5) _ _ (by simp)) (fcells_one 10 2 0 _ _ _) (by unfold maxLen; omega) (by omega) (by simp; omega) ?_; intro v6 w6 hown6 hg6 hat6)
                  have x6 := Below.app (hx5.alloc _) hg6 (by simp; omega) (hR5.row.alloc _) (Nat.le_refl _)
                  have hR6 := (hR5.ext ((Ext.refl w5).alloc _)).app (hf5.ext ((Ext.refl w5).alloc _)) hg6 hown6
                  go_roundw
                  case rel => exact ⟨j + 1, val_int (by omega), by omega, ⟨_, by rw [List.map_append, HDS.out, Hsn.out, ← List.append_assoc, List.map_append (l₂ := [tfv 10 2 0 bs])]; rfl, hR6⟩, (HB5.out.alloc _).grown hg6 (Ne.symm hne5), x6⟩
                  case measure => simp [intOf]; omega
                · have hnil : y.b ≠ [] := by intro e; rw [e] at hbl; simp at hbl; omega
                  have HE : Hid (entM y = numF 1 [y.term] ++ [⟨2, 2, 0, y.A, y.len, y.cap, y.b⟩]) := Lib.hid (by unfold entM; rw [if_neg hnil])
                  have hgt : (0 : Int) < y.len := by omega
                  have H0 := Lib.hid h0
                  have hrow3 := hR3.row
                  rw [HN1.out] at hrow3
                  clear h0 hnil
                  go_wp2_with (at_builtin; refine wpList_app fieldsT (by omega) _ rfl rfl rfl (hrow3.alloc _) rfl (rd_at4 _ (.int .i64 2) (.int .i64 2) (.int .u64 0) (.slice y.A y.len y.cap) _ _ (by simp)) (fcells_one 2 2 0 _ _ _) (by unfold maxLen; omega) (by omega) (by have := x3.size; simp; omega) ?_; intro v4 w4 hown4 hg4 hat4; have x4 := Below.app (x3.alloc _) hg4 (by have := x3.size; simp; omega) (hrow3.alloc _) (Nat.le_refl _); obtain ⟨A4, c4, rfl, _⟩ := own_form hown4)
                  have x34 : Ext wr w4 := x4
                  have hfs4 : Fs w4 A4 (1 + 1) (entM y) := by
                    rw [HE.out]
                    refine Fs.of_own (own_to hown4 (Nat.le_refl _) rfl ?_) ?_
                    · rw [rowOf_append, rowOf_one]; rfl
                    · rw [← HE.out]; exact fun f hf => (Htrue.out f hf).ext x34
                  clear e0 e1 e9 hrow3
                  refine (ref03_Put_ok _ _ _ (entM y) w4 hfs4 (by omega) HM.out).mono ?_
                  rintro e w5 ⟨v5, rfl, hown5, x5⟩
                  rw [HR.out] at hown5
                  generalize rput (entF y) = bs at *
                  obtain ⟨A5, c5, rfl, _⟩ := own_form hown5
                  have x05 := x34.trans x5
                  have hR5 := hR.ext x05
                  have hx5 := hx.trans x05
                  have hB5 := hB.ext x05
                  have hf5 : OwnF w5 w.heap.size ⟨10, 2, 0, A5, bs.length, c5, bs⟩ := ⟨own_base hown5 (by have := hx.size; have := x34.size; omega), show (0 : Nat) < 18446744073709551616 by decide⟩
                  have hsz5 := hx5.size
                  have hne5 := own_blk_ne hR5.row hB5 (by decide)
                  have HB5 := Lib.hid hB5
                  clear hR3 hfs4 hown4 hg4 hat4 x4 x3 hown5 x5 x05 hR hB hc0 hc1 d9 hB5
                  go_wp2_with (at_builtin; refine wpList_app fieldsT (by omega) _ rfl rfl rfl (hR5.row.alloc _) rfl (rd_at4 _ (.int .i64 10) (.int .i64 2) (.int .u64 0) (.slice A5 bs.length c5) _ _ (by simp)) (fcells_one 10 2 0 _ _ _) (by unfold maxLen; omega) (by omega) (by simp; omega) ?_; intro v6 w6 hown6 hg6 hat6)
                  have x6 := Below.app (hx5.alloc _) hg6 (by simp; omega) (hR5.row.alloc _) (Nat.le_refl _)
                  have hR6 := (hR5.ext ((Ext.refl w5).alloc _)).app (hf5.ext ((Ext.refl w5).alloc _)) hg6 hown6
                  go_roundw
                  case rel => exact ⟨j + 1, val_int (by omega), by omega, ⟨_, by rw [List.map_append, HDS.out, Hsn.out, ← List.append_assoc, List.map_append (l₂ := [tfv 10 2 0 bs])]; rfl, hR6⟩, (HB5.out.alloc _).grown hg6 (Ne.symm hne5), x6⟩
                  case measure => simp [intOf]; omega
              · obtain rfl : n = j := by omega
                have HDS2 : Hid (d.map FV.s = (N ++ many l).map FV.s) := Lib.hid (by rw [HDS.out, List.take_of_length_le (by omega)])
                have hfr := hf.ext hx
                clear hB
                go_wp2_with (at_builtin; refine wpList_app fieldsT (by omega) _ rfl rfl rfl hR.row rfl hfr.rd (rowOf_cells _) (by unfold maxLen; omega) (by omega) hx.size ?_; intro v5 w5 hown5 hg5 hat5; have x5 := Below.app hx hg5 hx.size hR.row (Nat.le_refl _); obtain ⟨A5, c5, rfl, _⟩ := own_form hown5)
                have hfs : Fs w5 A5 (d.length + m) (d ++ rest) := by
                  refine Fs.of_own (own_to hown5 (Nat.le_refl _) rfl (by rw [rowOf_append])) ?_
                  intro g hg
                  rcases List.mem_append.1 hg with hg | hg
                  · exact ((hR.own g hg).grown hR.row hg5).ok
                  · exact (hf.ok g hg).ext x5
                have hs : (d ++ rest).map FV.s = (N ++ many l ++ rest).map FV.s := by
                  rw [List.map_append, HDS2.out, ← List.map_append]
                have h1 := s_may hs
                have h2 := s_rput hs
                have HQ2 := HP.out
                rw [← h1, ← h2] at HQ2
                have HQ3 := Lib.hid HQ2
                have Hlen : (d ++ rest).length ≤ 20000 := by rw [List.length_append]; omega
                clear hs h1 h2 HQ2 HP hown5 hg5 hat5 hR
                generalize d ++ rest = D at *
                by_cases hz : fmay D = 0
                · have HZ := Lib.hid hz
                  clear hz
                  refine (ref03_Put_ok _ _ _ D _ hfs (by omega) HZ.out).mono ?_
                  rintro e w6 ⟨v6, rfl, hown6, x6⟩
                  go_wp2
                  go_ret2
                  rw [HQ3.out, if_pos HZ.out]
                  exact ⟨_, rfl, own_base hown6 x5.size, Ext.trans x5 x6⟩
                · have HZ := Lib.hid hz
                  clear hz
                  refine (ref03_Put_no _ _ _ D _ hfs (by omega) HZ.out).mono ?_
                  rintro e w6 ⟨rfl, x6⟩
                  go_wp2
                  go_ret2
                  rw [HQ3.out, if_neg HZ.out]
                  exact ⟨_, rfl, World.ownsRow_nil _ _ _ _, Ext.trans x5 x6⟩
theorem ref16_Put (x : LV) (A' : Option Addr) (m c' : Nat) (rest : List FV) (w : World) (hx : x.Ok w) (hxn : x.n ≤ 20000) (hf : Fs w A' m rest) (hn : m ≤ 19000) :
    Calls Try.prog 21 #[x.val, .slice A' m c'] w fun e w' => ∃ v, e = .returned (.tuple #[v, .int .i64 (lput x rest).2]) ∧ w'.ownsRow w.heap.size 5 1 v (lput x rest).1.length ((lput x rest).1.map bv) ∧ Ext w w' := by
  by_cases hm : mayB x = true
  · by_cases hl : lowB rest = true
    · have e : lput x rest = ([], 6) := by unfold lput; rw [if_neg (by simp [hm]), if_pos hl]
      rw [e]
      exact (ref16_Put_low x A' m c' rest w hx hxn hm hf hn hl).mono fun e w' ⟨h1, h2⟩ => ⟨_, h1, World.ownsRow_nil _ _ _ _, h2⟩
    · exact ref16_Put_ok x A' m c' rest w hx hxn hm hf hn (by simpa using hl)
  · have hm' : mayB x = false := by simpa using hm
    have e : lput x rest = ([], 1) := by unfold lput; rw [if_pos hm']
    rw [e]
    exact (ref16_Put_bad x A' m c' w hx hxn hm').mono fun e w' ⟨h1, h2⟩ => ⟨_, h1, World.ownsRow_nil _ _ _ _, h2⟩
end Go.Proofs.Ytcoaofaofmbfbaa

/- What coracleref16.Take reads of a letter's fields: plain. -/
namespace Go.Proofs.Ytcoaofaofmbfbaa
open Go.RowKit

/-- a number, of which no more than a bound is read -/
def minN (n : Nat) : Int := if (1073741824 : Int) < n then 1073741824 else n
theorem minN_id {n : Int} (h0 : 0 ≤ n) (h : n ≤ 1073741824) : minN n.toNat = n := by
  unfold minN; rw [if_neg (by omega)]; omega
theorem minN_nn (n : Nat) : 0 ≤ minN n ∧ minN n ≤ 1073741824 := by unfold minN; split <;> omega
def entStepM (p : Int × List UInt8) (f : FV) : Int × List UInt8 := if f.num = 1 then (minN f.n, p.2) else if f.num = 2 then (p.1, f.b) else p
def entOfM (l : List FV) : Int × List UInt8 := l.foldl entStepM (0, [])
theorem entOfM_snoc (l : List FV) (j : Nat) (h : j < l.length) : entOfM (l.take (j + 1)) = entStepM (entOfM (l.take j)) l[j] := by
  unfold entOfM
  rw [List.take_succ_eq_append_getElem h, List.foldl_append]; rfl
theorem s_entOfM {l m : List FV} (h : l.map FV.s = m.map FV.s) : entOfM l = entOfM m := by
  have e : ∀ (l m : List FV) p, l.map FV.s = m.map FV.s → l.foldl entStepM p = m.foldl entStepM p := by
    intro l
    induction l with
    | nil => intro m p h; cases m with | nil => rfl | cons b r => simp at h
    | cons a l ih =>
      intro m p h
      cases m with
      | nil => simp at h
      | cons b r =>
        simp only [List.map_cons, List.cons.injEq] at h
        have hs := h.1
        simp only [FV.s, Prod.mk.injEq] at hs
        rw [List.foldl_cons, List.foldl_cons, show entStepM p a = entStepM p b by unfold entStepM; rw [hs.1, hs.2.2.1, hs.2.2.2.2]]
        exact ih r _ h.2
  exact e l m _ h
theorem ent_ofM {y : EV} (h : EntOk y) : entOfM (ttrow (rput (entF y))).1 = y.p := by
  rw [s_entOfM (ent_row h).2]
  have ht := h.t1
  have ht2 := h.t2
  have e1 : entF y = [tfv 1 0 y.term.toNat []] ++ (if y.b = [] then [] else [tfv 2 2 0 y.b]) := by
    unfold entF; rw [numF_cons, if_neg (by omega)]; rfl
  have hw := minN_id (n := y.term) (by omega) (by omega)
  rw [e1]
  by_cases hb : y.b = []
  · rw [if_pos hb]
    simp [entOfM, entStepM, tfv, EV.p, hb, hw, -Int.ofNat_toNat]
  · rw [if_neg hb]
    simp [entOfM, entStepM, tfv, EV.p, hw, -Int.ofNat_toNat]
def stepM (X : List Int × List (Int × List UInt8)) (f : FV) : List Int × List (Int × List UInt8) :=
  if f.num < 10 then (X.1.set f.num.toNat (minN f.n), X.2) else (X.1, X.2 ++ [entOfM (ttrow f.b).1])
def readM (l : List FV) : List Int × List (Int × List UInt8) := l.foldl stepM (List.replicate 10 0, [])
theorem readM_snoc (l : List FV) (j : Nat) (h : j < l.length) : readM (l.take (j + 1)) = stepM (readM (l.take j)) l[j] := by
  unfold readM
  rw [List.take_succ_eq_append_getElem h, List.foldl_append]; rfl
theorem s_readM {l m : List FV} (h : l.map FV.s = m.map FV.s) : readM l = readM m := by
  have e : ∀ (l m : List FV) p, l.map FV.s = m.map FV.s → l.foldl stepM p = m.foldl stepM p := by
    intro l
    induction l with
    | nil => intro m p h; cases m with | nil => rfl | cons b r => simp at h
    | cons a l ih =>
      intro m p h
      cases m with
      | nil => simp at h
      | cons b r =>
        simp only [List.map_cons, List.cons.injEq] at h
        have hs := h.1
        simp only [FV.s, Prod.mk.injEq] at hs
        rw [List.foldl_cons, List.foldl_cons, show stepM p a = stepM p b by unfold stepM; rw [hs.1, hs.2.2.1, hs.2.2.2.2]]
        exact ih r _ h.2
  exact e l m _ h
/-- the letter that was read -/
def rcM (X : List Int × List (Int × List UInt8)) : RC := ⟨X.1.getD 1 0, X.1.getD 2 0 - 1, X.1.getD 3 0 - 1, X.1.getD 4 0, X.1.getD 5 0, X.1.getD 6 0, X.1.getD 7 0, X.1.getD 8 0, X.1.getD 9 0 != 0, X.2⟩
theorem fold_stepM (X : List Int × List (Int × List UInt8)) (n : Int) (k : Nat) (hk : k < 10) (h0 : 0 ≤ n) (h : n ≤ 1073741824) (hz : X.1.getD k 0 = 0) (hl : X.1.length = 10) (R : List FV) : ((if n = 0 then [] else [tfv k 0 n.toNat []]) ++ R).foldl stepM X = R.foldl stepM (X.1.set k n, X.2) := by
  by_cases hn : n = 0
  · rw [if_pos hn, List.nil_append]
    have : X.1.set k n = X.1 := by
      apply List.ext_getElem?
      intro i
      rw [List.getElem?_set]
      by_cases hi : k = i
      · subst hi
        rw [if_pos rfl, if_pos (by omega)]
        rw [List.getD_eq_getElem?_getD, List.getElem?_eq_getElem (by omega)] at hz
        rw [List.getElem?_eq_getElem (by omega), hn]
        simpa using hz.symm
      · rw [if_neg hi]
    rw [this]
  · rw [if_neg hn]
    have e : stepM X (tfv k 0 n.toNat []) = (X.1.set k n, X.2) := by
      have hw := minN_id h0 h
      have hk' : (k : Int) < 10 := by omega
      simp [stepM, tfv, hw, hk', -Int.ofNat_toNat]
    rw [List.singleton_append, List.foldl_cons, e]
theorem fold_entsM : ∀ (l : List EV) (X : List Int × List (Int × List UInt8)), (∀ y ∈ l, EntOk y) → (l.map fun y => tfv 10 2 0 (rput (entF y))).foldl stepM X = (X.1, X.2 ++ l.map EV.p)
  | [], X, _ => by simp
  | y :: r, X, h => by
    rw [List.map_cons, List.foldl_cons]
    have e : stepM X (tfv 10 2 0 (rput (entF y))) = (X.1, X.2 ++ [y.p]) := by
      have := ent_ofM (h y (by simp))
      simp [stepM, tfv, this]
    rw [e, fold_entsM r _ fun z hz => h z (by simp [hz])]
    simp
theorem let_readM {x : LV} (h : mayB x = true) (bx : ∀ y ∈ x.l, y.b.length = y.len) : rcM (readM (letF x)) = x.rc := by
  obtain ⟨p1, p2, p3, _, p4, p5, p6, p7, p8, _, he⟩ := mayB_parts h
  unfold readM letF letN
  simp only [numF_cons, numF_nil, List.append_assoc]
  have hok : (0 : Int) ≤ (if x.ok = true then (1 : Int) else 0) ∧ (if x.ok = true then (1 : Int) else 0) ≤ 1 := by split <;> omega
  rw [fold_stepM _ _ _ (by omega) (by omega) (by omega) (by simp) (by simp)]
  rw [fold_stepM _ _ _ (by omega) (by omega) (by omega) (by simp) (by simp)]
  rw [fold_stepM _ _ _ (by omega) (by omega) (by omega) (by simp) (by simp)]
  rw [fold_stepM _ _ _ (by omega) (by omega) (by omega) (by simp) (by simp)]
  rw [fold_stepM _ _ _ (by omega) (by omega) (by omega) (by simp) (by simp)]
  rw [fold_stepM _ _ _ (by omega) (by omega) (by omega) (by simp) (by simp)]
  rw [fold_stepM _ _ _ (by omega) (by omega) (by omega) (by simp) (by simp)]
  rw [fold_stepM _ _ _ (by omega) (by omega) (by omega) (by simp) (by simp)]
  rw [fold_stepM _ _ _ (by omega) hok.1 (by omega) (by simp) (by simp)]
  rw [List.nil_append, fold_entsM _ _ (entsB_ok he bx)]
  rcases hx : x.ok with _ | _
  · simp [rcM, LV.rc, hx]
  · simp [rcM, LV.rc, hx]
theorem readM_ok : ∀ (l : List FV) (X : List Int × List (Int × List UInt8)), X.1.length = 10 → (∀ v ∈ X.1, 0 ≤ v ∧ v ≤ 1073741824) → (l.foldl stepM X).1.length = 10 ∧ ∀ v ∈ (l.foldl stepM X).1, 0 ≤ v ∧ v ≤ 1073741824
  | [], X, h, k => ⟨h, k⟩
  | f :: r, X, h, k => by
    rw [List.foldl_cons]
    refine readM_ok r _ ?_ ?_
    · unfold stepM; split
      · simpa using h
      · exact h
    · unfold stepM; split
      · intro v hv
        rcases List.mem_or_eq_of_mem_set hv with hv | rfl
        · exact k v hv
        · exact minN_nn _
      · exact k
theorem readM_bd (l : List FV) : (readM l).1.length = 10 ∧ ∀ v ∈ (readM l).1, 0 ≤ v ∧ v ≤ 1073741824 :=
  readM_ok l _ (by simp) (by intro v hv; have := (List.mem_replicate.1 hv).2; subst this; exact ⟨by omega, by omega⟩)
/-- a row of ten numbers, by its numbers -/
theorem ten {l : List Int} (h : l.length = 10) : ∃ a b c d e f g i j k, l = [a, b, c, d, e, f, g, i, j, k] := by
  match l, h with
  | [a, b, c, d, e, f, g, i, j, k], _ => exact ⟨a, b, c, d, e, f, g, i, j, k, rfl⟩
end Go.Proofs.Ytcoaofaofmbfbaa
