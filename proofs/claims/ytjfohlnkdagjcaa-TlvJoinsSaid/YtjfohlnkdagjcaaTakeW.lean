/- The walk of tlv.Take. -/
import Derived.Test.YtjfohlnkdagjcaaTakeG
import Derived.Test.YtjfohlnkdagjcaaTakeM
namespace Go.Proofs.Ytjfohlnkdagjcaa
open Go.RowKit

theorem tlv_take_may (f : FV) (B : Nat) (A : Option Addr) (n c : Nat) (ms : List FV) (w : World) (hc : w.cell? ⟨B, 0, none⟩ = some (.slice A n c)) (hf : Fs w A n ms) (hn : n ≤ 100000) :
    Calls Try.prog 56 #[f.val, .pointer (some ⟨B, 0, none⟩)] w fun e w' => e = .returned (.bool (!fallsB ms.getLast? f)) ∧ Ext w w' := by
  have hl := hf.len
  rcases Nat.eq_zero_or_pos n with h0 | hp
  · subst h0
    have : ms = [] := List.eq_nil_of_length_eq_zero hl
    subst this
    exact tlv_take_may0 f B A c w hc
  · obtain ⟨i, rfl⟩ : ∃ i, n = i + 1 := ⟨n - 1, by omega⟩
    have hg : ms[i]? = some (ms[i]'(by omega)) := List.getElem?_eq_getElem _
    refine (tlv_take_may1 f B A (i + 1) i c ms _ w hc hf rfl (by omega) hg).mono ?_
    rintro e w' ⟨rfl, x⟩
    refine ⟨?_, x⟩
    have hla : ms.getLast? = some (ms[i]'(by omega)) := by rw [List.getLast?_eq_getElem?]; exact (congrArg (fun k => ms[k]?) (show ms.length - 1 = i by omega)).trans hg
    rw [hla]
    simp [fallsB]

theorem trow_clean (p : Option FV) (l : List UInt8) (h : (trow p l).2 ≠ 0) : (trow p l).1 = [] := by
  rw [trow] at h ⊢
  split
  · rfl
  · split
    · rfl
    · split
      · rfl
      · split
        · rfl
        · split
          · rfl
          · rename_i a1 a2 a3 a4 a5
            rw [dif_neg a1, if_neg a2, dif_neg a3, if_neg a4, if_neg a5] at h
            exact absurd rfl h
theorem tjoin_nil (p : Option FV) (l : List UInt8) : tjoin [] (trow p l) = trow p l := by
  unfold tjoin
  by_cases h : (trow p l).2 ≠ 0
  · rw [if_pos h, ← trow_clean p l h]
  · rw [if_neg h, List.nil_append]
    have : (trow p l).2 = 0 := by simpa using h
    rw [← this]

set_option maxRecDepth 100000 in
set_option maxHeartbeats 1600000 in
theorem tlv_Take (A : Option Addr) (n c : Nat) (l : List UInt8) (w : World) (hb : Bs w A n l) (hn : n ≤ 16384) (hnc : n ≤ c) :
    Calls Try.prog 33 #[.slice A n c] w fun e w' => ∃ v ms, e = .returned (.tuple #[v, .int .i64 (trow none l).2]) ∧ w'.ownsRow (w.heap.size + 1) 42 4 v ms.length (rowOf ms) ∧ (∀ f ∈ ms, OwnF w' (w.heap.size + 1) f) ∧ ms.map FV.s = (trow none l).1.map FV.s ∧ Ext w w' := by
  have hlen := hb.len
  have hcb : w.heap.size < (w.alloc (.cells #[.slice none 0 0] 43)).heap.size := by simp
  have hn1 : ((16384 : Int) < n) = False := by simp; omega
  have hn2 : ¬ ((16384 : Int) < n) := by omega
  go_enter Try.func33, Try.ntmps33
  go_wp2_with fail
  go_loopw [6] (fun i wr => ∃ (at_ : Nat) (pre ms : List FV) (A1 : Option Addr) (c1 : Nat), i = .int .i64 at_ ∧ at_ ≤ n ∧ Blk wr w.heap.size 43 [.slice A1 ms.length c1] ∧ wr.ownsRow (w.heap.size + 1) 42 4 (.slice A1 ms.length c1) ms.length (rowOf ms) ∧
      (∀ f ∈ ms, OwnF wr (w.heap.size + 1) f) ∧ ms.map FV.s = pre.map FV.s ∧ trow none l = tjoin pre (trow pre.getLast? (l.drop at_)) ∧ ms.length ≤ at_ ∧ Ext w wr) (fun i _ => n - (intOf i).toNat)
  case atStart =>
    refine ⟨0, [], [], none, 0, rfl, by omega, Blk.new w 43 [.slice none 0 0], World.ownsRow_nil _ _ _ _, by simp, rfl, ?_, by simp, (Ext.refl w).alloc _⟩
    exact (tjoin_nil none l).symm
  case round =>
    obtain ⟨at_, pre, ms, A1, c1, rfl, hat, hblk, hown, hof, hs, htr, hml, hx⟩ := hrel
    have hcell := hblk.cell 0
    simp only [List.getElem?_cons_zero] at hcell
    have HO := Lib.hid hof; clear hof
    have HS := Lib.hid hs; clear hs
    by_cases hjn : at_ < n
    · have hne : l.drop at_ ≠ [] := by
        intro h
        have := congrArg List.length h
        rw [List.length_drop] at this
        simp at this; omega
      have hjn' : (at_ : Int) < n := by omega
      obtain ⟨A', c', hc', hsl, hb'⟩ := cut_bytes (P := Try.prog) bytesT A hat hnc (at_ : Int) rfl
      have C1 := Lib.hid (tag_Skip A' (n - at_) c' (l.drop at_) wr (hb' _ _ (hb.ext hx)) (by omega) (by omega))
      rcases hsk : tskip (l.drop at_) with ⟨size, er⟩
      rw [hsk] at C1
      by_cases her : er ≠ 0
      · have hfin : trow none l = ([], er) := by rw [htr, trow_bad hne her (by rw [hsk])]; simp [tjoin, her]
        have HF := Lib.hid hfin
        have her' : ((er : Int) != 0) = true := bne_t (by omega)
        clear hfin htr hsk hb hb' hne
        unfold sq at C1
        go_wp2_with fail
        refine C1.out.mono ?_
        rintro e w1 ⟨rfl, x1⟩
        go_wp2
        go_ret2
        exact ⟨_, [], by rw [HF.out]; rfl, World.ownsRow_nil _ _ _ _, by simp, by rw [HF.out], hx.trans x1⟩
      · obtain rfl : er = 0 := by omega
        obtain ⟨num, wire, fn, b, q1, q2, q3, q4, q5, q6, q7, q8, q9⟩ := tskip_sound hsk
        rw [List.length_drop] at q8
        have hsz : at_ + size ≤ n := by omega
        have hszI : (at_ : Int) + (size : Int) ≤ n := by omega
        have hszJ : (at_ : Int) ≤ (at_ : Int) + (size : Int) := by omega
        obtain ⟨A2, c2, hc2, hsl2, hb2⟩ := cut_bytes2 (P := Try.prog) bytesT A (show at_ ≤ at_ + size by omega) (show at_ + size ≤ n by omega) hnc (at_ : Int) ((at_ : Int) + (size : Int)) rfl (by omega)
        have hb3 := fun (w' : World) (h : Bs w' A n l) => hb2 w' l h
        simp only [Nat.add_sub_cancel_left, q6] at hb3
        rw [Nat.add_sub_cancel_left] at hsl2 hc2
        have C2 := Lib.hid (fun (w' : World) (h : Ext w w') => tlv_field A2 size c2 num wire fn b w' (hb3 _ (hb.ext h)) (by omega) (by omega) q1 q2 q3 q4 q5)
        have hfld : tfield ((l.drop at_).take size) = tfv num wire fn b := by rw [q6]; exact tfield_put q1 q2 q3 q4 q5
        have hwr : IntKind.i64.wrap ((at_ : Int) + (size : Int)) = (at_ : Int) + (size : Int) := IntWalk.i64_in _ (by omega)
        have HFld := Lib.hid hfld
        have HTr := Lib.hid htr
        have HNe := Lib.hid hne
        have HSk := Lib.hid hsk
        have hszw := hx.size
        clear hfld htr hne hsk hb hb' hb2 hb3 q1 q2 q3 q4 q5 q6 q7 q8 hc2 hc' her
        unfold sq at C1
        go_wp2_with fail
        refine C1.out.mono ?_
        rintro e w1 ⟨rfl, x1⟩
        go_wp2_with fail
        refine (C2.out _ (hx.trans x1)).mono ?_
        rintro e w2 ⟨⟨gnum, gwire, gn, gA, glen, gcap, gb⟩, rfl, hgo, hgs, x2⟩
        unfold FV.val
        have x3 : Ext wr (w2.alloc (.cells #[.int .i64 gnum, .int .i64 gwire, .int .u64 gn, .slice gA glen gcap] 42)) := ((x1.trans x2).alloc _)
        have hB3 := Blk.new w2 42 [.int .i64 gnum, .int .i64 gwire, .int .u64 gn, .slice gA glen gcap]
        have hown3 := own_ext hown x3
        have HM := Lib.hid (tlv_take_may ⟨gnum, gwire, gn, gA, glen, gcap, gb⟩ w.heap.size A1 ms.length c1 ms _ (x3.cell hcell) ⟨Rd.of_own hown3, fun f hf => (show OwnF _ _ f from ⟨own_ext (HO.out f hf).1 x3, (HO.out f hf).2⟩).ok⟩ (by omega))
        generalize hfb : fallsB ms.getLast? ⟨gnum, gwire, gn, gA, glen, gcap, gb⟩ = fb at HM
        unfold FV.val at HM
        dsimp only at HM
        have hfe : fallsB pre.getLast? (tfv num wire fn b) = fb := by
          rw [← hfb]
          exact (s_falls (by rw [← List.getLast?_map, ← List.getLast?_map, HS.out]) hgs).symm
        rw [← HFld.out] at hfe
        clear hfb
        rcases fb with _ | _
        · have Hnx := Lib.hid (HTr.out.trans (congrArg (tjoin pre) (trow_next HNe.out q9 HSk.out hfe)))
          clear hfe
          have HG := Lib.hid hgo; clear hgo
          have HGS := Lib.hid hgs; clear hgs
          have hbl3 := hblk.ext x3
          go_wp2_with (first
            | (go_at_call 56; refine HM.out.mono ?_; rintro e w4 ⟨rfl, x4⟩; have hB4 := hB3.ext x4; have e0 := hB4.cell 0; have e1 := hB4.cell 1; have e2 := hB4.cell 2; have e3 := hB4.cell 3; have hbl4 := hbl3.ext x4; have hcell4 := hbl4.cell 0; simp only [List.getElem?_cons_zero, List.getElem?_cons_succ] at e0 e1 e2 e3 hcell4)
            | (at_builtin; refine wpList_app fieldsT (by omega) _ rfl rfl rfl ((own_ext hown3 x4).alloc (.cells #[.int .i64 gnum, .int .i64 gwire, .int .u64 gn, .slice gA glen gcap] 42)) rfl (rd_at4 _ (.int .i64 gnum) (.int .i64 gwire) (.int .u64 gn) (.slice gA glen gcap) _ _ (by simp)) (fcells_one _ _ _ _ _ _) (by unfold maxLen; omega) (by omega) (by have := x3.size; have := x4.size; simp at *; omega) ?_; intro v5 w5 hown5 hg5' hat5; clear hat5; obtain ⟨A5, c5, rfl, _⟩ := own_form hown5; have hg5 : World.grownBy (w4.alloc (.cells #[.int .i64 gnum, .int .i64 gwire, .int .u64 gn, .slice gA glen gcap] 42)) w5 (Value.slice A1 ms.length c1).ownBlock := hg5'; clear hg5'; have hbl5 : Blk w5 w.heap.size 43 [.slice A1 ms.length c1] := (hbl4.alloc _).grown hg5 (by intro h; have := (hown.lt _ h.symm).1; omega); have hcell5 := hbl5.cell 0; have hfz5 := hbl5.frozen 0; have hlt5 := hbl5.lt; simp only [List.getElem?_cons_zero] at hcell5))
          have hK4 := (own_ext hown3 x4).alloc (.cells #[.int .i64 gnum, .int .i64 gwire, .int .u64 gn, .slice gA glen gcap] 42)
          have hs1 := x1.size
          have hltr := hblk.lt
          have hsz4 : w.heap.size ≤ (w4.alloc (.cells #[.int .i64 gnum, .int .i64 gwire, .int .u64 gn, .slice gA glen gcap] 42)).heap.size := (((hx.trans x3).trans x4).alloc _).size
          go_roundw
          case rel =>
            refine ⟨at_ + size, pre ++ [tfield ((l.drop at_).take size)], ms ++ [⟨gnum, gwire, gn, gA, glen, gcap, gb⟩], A5, c5, val_int (by omega), hsz, ?_, ?_, ?_, ?_, ?_, ?_, ?_⟩
            · rw [List.length_append, List.length_singleton]
              exact hbl5.set_ 0 (.slice A5 (ms.length + 1) c5)
            · rw [List.length_append, List.length_singleton]
              exact own_set (own_to hown5 (Nat.le_refl _) rfl (by rw [rowOf_append, rowOf_one]; rfl)) (by dsimp only; omega) _
            · intro f hf
              rcases List.mem_append.1 hf with hf | hf
              · have h1 := (own_ext (own_ext (HO.out f hf).1 x3) x4).alloc (.cells #[.int .i64 gnum, .int .i64 gwire, .int .u64 gn, .slice gA glen gcap] 42)
                exact ⟨own_set (h1.kept hg5 (own_apart h1 hK4 (by decide))) (by dsimp only; omega) _, (HO.out f hf).2⟩
              · simp only [List.mem_singleton] at hf
                subst hf
                have h1 := (own_ext ((own_base (base' := w.heap.size + 1) HG.out.1 (by omega)).alloc (.cells #[.int .i64 gnum, .int .i64 gwire, .int .u64 gn, .slice gA glen gcap] 42)) x4).alloc (.cells #[.int .i64 gnum, .int .i64 gwire, .int .u64 gn, .slice gA glen gcap] 42)
                exact ⟨own_set (h1.kept hg5 (own_apart h1 hK4 (by decide))) (by dsimp only; omega) _, HG.out.2⟩
            · rw [List.map_append, List.map_append, HS.out, HFld.out, List.map_singleton, List.map_singleton, HGS.out]
            · have h := Hnx.out
              rw [tjoin_join, List.drop_drop] at h
              rw [List.getLast?_concat]
              exact h
            · rw [List.length_append, List.length_singleton]; omega
            · exact (Below.app (((hx.trans x3).trans x4).alloc _) hg5 hsz4 hK4 (by omega)).setCell (Nat.le_refl _) _
          case measure => simp [intOf]; omega
        · have Hnx := Lib.hid (HTr.out.trans (congrArg (tjoin pre) (trow_falls HNe.out q9 HSk.out hfe)))
          clear hfe
          go_wp2_with (go_at_call 56; refine HM.out.mono ?_; rintro e w4 ⟨rfl, x4⟩)
          go_ret2
          exact ⟨_, [], by rw [Hnx.out]; rfl, World.ownsRow_nil _ _ _ _, by simp, by rw [Hnx.out]; rfl, (hx.trans x3).trans x4⟩
    · obtain rfl : n = at_ := by omega
      have htr2 := htr
      rw [List.drop_of_length_le (by omega), trow_nil] at htr2
      unfold tjoin at htr2
      simp at htr2
      have HT := Lib.hid htr2
      clear htr htr2
      go_wp2
      go_ret2
      exact ⟨_, ms, by rw [HT.out]; rfl, hown, HO.out, by rw [HT.out]; exact HS.out, hx⟩
end Go.Proofs.Ytjfohlnkdagjcaa
