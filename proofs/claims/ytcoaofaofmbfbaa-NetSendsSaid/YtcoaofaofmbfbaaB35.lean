/- Words and walks that the last text of this claim stands on: NtP. No condition. -/
import Derived.Test.YtcoaofaofmbfbaaB34
import Derived.Test.YtcoaofaofmbfbaaB01
/- The walk of the law NetSends. (Printed by wip/tools/ntsends.py.) -/
namespace Go.Proofs.Ytcoaofaofmbfbaa
open Go.RowKit

theorem own_unmask {F : Nat → Bool} {w : World} {base : Nat} {e : TypeId} {size n : Nat} {v : Value} {xs : List Value} (h : (mask F w).ownsRow base e size v n xs) (he : e ≠ 0) : w.ownsRow base e size v n xs ∧ ∀ k, v.ownBlock = some k → F k = false := by
  refine ⟨⟨h.1, ?_⟩, fun k hk => ?_⟩
  · rcases h.2 with hn | ⟨g, cap, cur, rfl, hb, hg, rest⟩
    · exact .inl hn
    · refine .inr ⟨g, cap, cur, rfl, hb, ?_, rest⟩
      cases eF : F g with
      | false => rw [mask_block w eF] at hg; exact hg
      | true =>
        rw [mask_at, eF] at hg
        cases hw : w.heap[g]? with
        | none => rw [hw] at hg; cases hg
        | some o => rw [hw] at hg; simp at hg; exact absurd hg.2.symm he
  · rcases h.2 with ⟨rfl, _⟩ | ⟨g, cap, cur, rfl, hb, hg, rest⟩
    · cases hk
    · injection hk with hk
      simp only at hk
      subst hk
      cases eF : F g with
      | false => rfl
      | true =>
        rw [mask_at, eF] at hg
        cases hw : w.heap[g]? with
        | none => rw [hw] at hg; cases hg
        | some o => rw [hw] at hg; simp at hg; exact absurd hg.2.symm he
theorem grown_mask {F : Nat → Bool} {w w' : World} {row : Option Nat} (h : w.grownBy w' row) : (mask F w).grownBy (mask F w') row :=
  ⟨h.os, h.tape, h.output, by rw [mask_size, mask_size]; exact h.size, fun k hk hne => by
    rw [mask_size] at hk
    rw [mask_at, mask_at, h.block k hk hne]⟩
/-- a net, and the letters that it holds, in a row of the call's own -/
structure SS (w wr : World) (F : Nat → Bool) (g : Nat) (x : NetV) (v : Value) (d : List LV) (B2 : Nat) : Prop where
  nn : Net wr F g x
  lb : ∀ k, F k = true → w.heap.size ≤ k
  row : (mask F wr).ownsRow B2 26 10 v d.length (thingsOf d)
  el : ∀ y ∈ d, OwnY (mask F wr) B2 w y ∧ mayB y = true
  ex : Ext w wr
theorem SS.wm {w wr : World} {F : Nat → Bool} {g B2 : Nat} {x : NetV} {v : Value} {d : List LV} (h : SS w wr F g x v d B2) : Ext w (mask F wr) := h.ex.masked h.lb
theorem SS.ext {w wr W : World} {F : Nat → Bool} {g B2 : Nat} {x : NetV} {v : Value} {d : List LV} (h : SS w wr F g x v d B2) (he : Ext wr W) : SS w W F g x v d B2 :=
  ⟨IsNet.ext h.nn he, h.lb, own_ext h.row he.masks, fun y hy => ⟨(h.el y hy).1.ext he.masks, (h.el y hy).2⟩, h.ex.trans he⟩
theorem SS.step {w W W' : World} {F F' : Nat → Bool} {g B2 : Nat} {x x' : NetV} {v : Value} {d : List LV} (h : SS w W F g x v d B2) (hN : Net W' F' g x') (hF : ∀ k, k < W.heap.size → F' k = F k) (hf : Fr F W W') : SS w W' F' g x' v d B2 :=
  ⟨hN, fun k hk => by
    by_cases hlt : k < W.heap.size
    · rw [hF k hlt] at hk; exact h.lb k hk
    · have := h.ex.size; omega, own_ext h.row (hf.masks hF), fun y hy => ⟨(h.el y hy).1.ext (hf.masks hF), (h.el y hy).2⟩, hf.below h.ex h.ex.size h.lb⟩
theorem SS.ts {w wr : World} {F : Nat → Bool} {g B2 n c : Nat} {x : NetV} {A : Option Addr} {d : List LV} (h : SS w wr F g x (.slice A n c) d B2) (hn : n = d.length) : Ts (mask F wr) A n d := by
  subst hn
  exact Ts.of_own h.row (fun y hy => (h.el y hy).1.ok h.wm) (by omega)
theorem SS.own {w wr : World} {F : Nat → Bool} {g B2 : Nat} {x : NetV} {v : Value} {d : List LV} (h : SS w wr F g x v d B2) : wr.ownsRow B2 26 10 v d.length (thingsOf d) := (own_unmask h.row (by decide)).1
/-- a letter more in the row -/
theorem SS.push {w W w9 : World} {F : Nat → Bool} {g B2 : Nat} {x : NetV} {v v' : Value} {d : List LV} {y : LV} (h : SS w W F g x v d B2) (hy : y ∈ d) (hB : w.heap.size ≤ B2)
    (hown : w9.ownsRow B2 26 10 v' (d.length + 1) (thingsOf d ++ y.cells)) (hg : W.grownBy w9 v.ownBlock) (hat : v'.ownBlock = v.ownBlock ∨ v'.ownBlock = some W.heap.size) : SS w w9 F g x v' (d ++ [y]) B2 := by
  obtain ⟨ho, hFo⟩ := own_unmask h.row (by decide)
  refine ⟨IsNet.fr h.nn (G := fun k => decide (some k = v.ownBlock)) (Fr.grown hg (fun k hk => by simp [hk])) (fun k hk => by
      cases e : decide (some k = v.ownBlock) with
      | false => rfl
      | true =>
        have e2 : v.ownBlock = some k := (of_decide_eq_true e).symm
        rw [hFo k e2] at hk; cases hk), h.lb, ?_, ?_, ?_⟩
  · refine own_to (n := d.length + 1) (xs := thingsOf d ++ y.cells) (own_mask hown (fun k hk => ?_)) (Nat.le_refl _) (by simp) (by rw [thingsOf_append, thingsOf_one]; rfl)
    rcases hat with e | e
    · exact hFo k (e.symm.trans hk)
    · rw [hk] at e
      injection e with e
      subst e
      cases eF : F W.heap.size with
      | false => rfl
      | true => have := h.nn.ub _ eF; omega
  · intro q hq
    have hq2 : q ∈ d := by
      rcases List.mem_append.1 hq with hq | hq
      · exact hq
      · simp only [List.mem_singleton] at hq; subst hq; exact hy
    exact ⟨(h.el q hq2).1.grown h.row (grown_mask hg), (h.el q hq2).2⟩
  · exact Below.grown h.ex hg h.ex.size (fun k hk => by have := (ho.lt k hk).1; omega)
def lenOf : Value → Nat | .slice _ n _ => n | _ => 0
set_option maxRecDepth 100000 in
set_option maxHeartbeats 6400000 in
theorem law_NetSends (A : Option Addr) (n c : Nat) (l : List LV) (Aa : Option Addr) (na ca : Nat) (la : List UInt8) (tw : Int) (w : World) (hl : Ts w A n l) (hnc : n ≤ c) (hcm : c ≤ maxLen) (hba : Bs w Aa na la) (hnca : na ≤ ca) (hcma : ca ≤ maxLen) (ht0 : 0 ≤ tw) (ht1 : tw < 256) :
    Calls Try.prog 8 #[.slice A n c, .slice Aa na ca, .int .u8 tw] w fun e w' => e = .returned (.bool true) ∧ Ext w w' := by
  have hl0 := hl
  go_enter Try.func8, Try.ntmps8
  go_wp2_with fail
  refine (law21_shown w).mono ?_
  rintro e w1 ⟨rfl, x1⟩
  go_wp2_with fail
  refine (net_New w1).mono ?_
  rintro e w2 ⟨rfl, hN, x2⟩
  have HN := Lib.hid hN
  have xw2 := x1.trans x2
  have hg := x1.size
  have hg2 : w1.heap.size < w2.heap.size := hN.blk.lt
  generalize w1.heap.size = g at *
  have hown0 : (w2.alloc (.cells #[] 26)).ownsRow w2.heap.size 26 10 (.slice (some ⟨w2.heap.size, 0, none⟩) 0 0) 0 [] := own_empty w2 26 10
  have xw3 : Ext w (w2.alloc (.cells #[] 26)) := xw2.alloc _
  have HLS := Lib.hid (law21_letters A n c l w _ hl xw3 hnc hcm)
  have HO0 := Lib.hid hown0
  have hsz3 : (w2.alloc (.cells #[] 26)).heap.size = w2.heap.size + 1 := by simp
  have HSZ := Lib.hid hsz3
  have HN3 := Lib.hid (IsNet.ext hN ((Ext.refl w2).alloc (.cells #[] 26)))
  clear hN x1 x2 xw2 hown0 hl hsz3 HN
  go_wp2_with fail
  refine HLS.out.mono ?_
  rintro e w4 ⟨v4, ls, rfl, hown4, hl8, hD, x4⟩
  obtain ⟨A3, c3, rfl, _⟩ := own_form hown4
  have xw4 := xw3.trans x4
  have hsz4 : w2.heap.size + 1 ≤ w4.heap.size := by have := x4.size; rw [HSZ.out] at this; exact this
  have HO4 := Lib.hid (own_ext HO0.out x4)
  have HN4 := Lib.hid (IsNet.ext HN3.out x4)
  have HALL := Lib.hid (own_base (base' := w2.heap.size) hown4 (by rw [HSZ.out]; omega))
  have HAD := Lib.hid (fun y hy => (hD y hy).to (B' := w2.heap.size) (by rw [HSZ.out]; omega))
  have HAP : Hid ((Value.slice (some ⟨w2.heap.size, 0, none⟩) 0 0).ownBlock = none ∨ (Value.slice (some ⟨w2.heap.size, 0, none⟩) 0 0).ownBlock ≠ (Value.slice A3 ls.length c3).ownBlock) := Lib.hid (.inr (fun e => by
    have h := (hown4.lt _ e.symm).1
    rw [HSZ.out] at h
    exact absurd h (by show ¬ (w2.heap.size + 1 ≤ w2.heap.size); omega)))
  have HXX := Lib.hid xw4
  clear HLS hown4 hD x4 xw3 HO0 HN3 xw4
  generalize hB2 : w2.heap.size = B2 at *
  clear hB2 HSZ
  go_wp2_with fail
  go_loopw [9, 11] (fun v i wr => ∃ j : Nat, i = .int .i64 j ∧ j ≤ ls.length ∧ (∃ d : List LV, wr.ownsRow B2 26 10 v d.length (thingsOf d) ∧ d.length ≤ j ∧ ∀ y ∈ d, OwnY wr B2 w y ∧ mayB y = true) ∧ wr.ownsRow B2 26 10 (.slice A3 ls.length c3) ls.length (thingsOf ls) ∧ (∀ y ∈ ls, OwnY wr B2 w y) ∧ (v.ownBlock = none ∨ v.ownBlock ≠ (Value.slice A3 ls.length c3).ownBlock) ∧ Net wr (fun k => k == g) g netZ ∧ B2 ≤ wr.heap.size ∧ Ext w wr) (fun _ i _ => ls.length - (intOf i).toNat)
  case atStart => exact ⟨0, rfl, by omega, ⟨[], HO4.out, Nat.le_refl _, by simp⟩, HALL.out, HAD.out, HAP.out, HN4.out, by omega, HXX.out⟩
  case round =>
    clear HO4 HN4 HALL HAD HAP HXX
    obtain ⟨j, rfl, hj, ⟨d, hown, hdj, hD⟩, hall, hAD, hap, hN, hBw, hx⟩ := hrel
    obtain ⟨v9, rfl⟩ : ∃ v9 : Value, v9 = u9 := ⟨_, rfl⟩
    have HAP := Lib.hid hap
    have HOWN := Lib.hid hown
    have HALL := Lib.hid hall
    have HAD := Lib.hid hAD
    have HD := Lib.hid hD
    have HN := Lib.hid hN
    clear hap hown hAD hD hN
    have hts : Ts wr A3 ls.length ls := Ts.of_own hall (fun y hy => (HAD.out y hy).ok hx) (by omega)
    clear hall
    by_cases hjn : j < ls.length
    · have hj0 : (0 : Int) ≤ j := by omega
      have hj1 : (j : Int) < ls.length := by omega
      obtain ⟨b, off, rfl, hbw, hcl⟩ := hts.at_ hjn
      have hyok : (ls[j]).Ok wr := hts.ok ls[j] (List.getElem_mem _)
      have hyY := HAD.out ls[j] (List.getElem_mem _)
      generalize ls[j] = y at *
      have e0 := hcl 0 (by omega)
      have e1 := hcl 1 (by omega)
      have e2 := hcl 2 (by omega)
      have e3 := hcl 3 (by omega)
      have e4 := hcl 4 (by omega)
      have e5 := hcl 5 (by omega)
      have e6 := hcl 6 (by omega)
      have e7 := hcl 7 (by omega)
      have e8 := hcl 8 (by omega)
      have e9 := hcl 9 (by omega)
      simp only [show Thing.cells y = LV.cells y from rfl, LV.cells, List.getElem?_cons_zero, List.getElem?_cons_succ, Nat.add_zero] at e0 e1 e2 e3 e4 e5 e6 e7 e8 e9
      have HM := Lib.hid (ref16_May y wr hyok (by have := hyY.few; omega))
      unfold LV.val at HM
      have HY := Lib.hid hyY
      obtain ⟨m, hm⟩ : ∃ m, mayB y = m := ⟨_, rfl⟩
      have HMB := Lib.hid hm
      clear hts hcl hyok hyY
      rcases m with _ | _
      · rw [mayR_f hm] at HM
        clear hm
        go_wp2_with fail
        refine HM.out.mono ?_
        rintro e w5 ⟨rfl, x5⟩
        go_wp2_with fail
        go_roundw
        case rel => exact ⟨j + 1, val_int (by omega), by omega, ⟨d, own_ext HOWN.out x5, by omega, fun q hq => ⟨(HD.out q hq).1.ext x5, (HD.out q hq).2⟩⟩, own_ext HALL.out x5, fun q hq => (HAD.out q hq).ext x5, HAP.out, IsNet.ext HN.out x5, Nat.le_trans hBw x5.size, hx.trans x5⟩
        case measure => simp [intOf]; omega
      · rw [mayR_t hm] at HM
        clear hm
        go_wp2_with fail
        refine HM.out.mono ?_
        rintro e w5 ⟨rfl, x5⟩
        have f0 := x5.cell e0
        have f1 := x5.cell e1
        have f2 := x5.cell e2
        have f3 := x5.cell e3
        have f4 := x5.cell e4
        have f5 := x5.cell e5
        have f6 := x5.cell e6
        have f7 := x5.cell e7
        have f8 := x5.cell e8
        have f9 := x5.cell e9
        have xal : Ext wr (w5.alloc (.cells #[.int .i64 y.kind, .int .i64 y.src, .int .i64 y.dst, .int .i64 y.term, .int .i64 y.a, .int .i64 y.b, .int .i64 y.c, .int .i64 y.bin, .bool y.ok, .slice y.A y.n y.cp] 26)) := x5.alloc _
        have hrow := own_ext HOWN.out xal
        have hx5 := hx.trans xal
        have hsz5 := xal.size
        clear HM e0 e1 e2 e3 e4 e5 e6 e7 e8 e9
        go_wp2_with (at_builtin; refine wpList_app lettersT (by omega) _ rfl rfl rfl hrow rfl (Rd.block w5 #[.int .i64 y.kind, .int .i64 y.src, .int .i64 y.dst, .int .i64 y.term, .int .i64 y.a, .int .i64 y.b, .int .i64 y.c, .int .i64 y.bin, .bool y.ok, .slice y.A y.n y.cp] 26 1 rfl) (Thing.one y) (by unfold maxLen; omega) (by omega) (by omega) ?_; intro v6 w6 hown6 hg6 hat6)
        have hallx := own_ext HALL.out xal
        have x6 : Ext w w6 := Below.grown hx5 hg6 hx5.size (fun k hk => by have := (hrow.lt k hk).1; omega)
        have HR : Hid (w6.ownsRow B2 26 10 v6 (d ++ [y]).length (thingsOf (d ++ [y]))) := Lib.hid (own_to hown6 (Nat.le_refl _) (by simp) (by rw [thingsOf_append, thingsOf_one]; rfl))
        have HA6 : Hid (w6.ownsRow B2 26 10 (.slice (some ⟨b, off, none⟩) ls.length c3) ls.length (thingsOf ls)) := Lib.hid (own_grown hallx hg6 (own_ne HAP.out))
        have HAP6 : Hid (v6.ownBlock = none ∨ v6.ownBlock ≠ (Value.slice (some ⟨b, off, none⟩) ls.length c3).ownBlock) := Lib.hid (own_ne (apart_new hallx (Nat.le_refl _) (own_ne HAP.out) hat6))
        have HD6 : Hid (∀ q ∈ d ++ [y], OwnY w6 B2 w q ∧ mayB q = true) := Lib.hid (fun q hq => by
          rcases List.mem_append.1 hq with hq | hq
          · exact ⟨((HD.out q hq).1.ext xal).grown hrow hg6, (HD.out q hq).2⟩
          · simp only [List.mem_singleton] at hq
            subst hq
            exact ⟨(HY.out.ext xal).grown hrow hg6, HMB.out⟩)
        have HAD6 : Hid (∀ q ∈ ls, OwnY w6 B2 w q) := Lib.hid (fun q hq => ((HAD.out q hq).ext xal).grown hrow hg6)
        have hNx := IsNet.ext HN.out xal
        have HN6 : Hid (Net w6 (fun k => k == g) g netZ) := Lib.hid (hNx.fr (G := fun k => decide (some k = v9.ownBlock)) (Fr.grown hg6 (fun k hk => by have hk' : v9.ownBlock = some k := hk; simp [hk'])) (fun k hk => by
          have hne := own_blk_ne hrow hNx.blk (by decide)
          have : k = g := by simpa using hk
          subst this
          simpa using fun e => hne e.symm))
        have hs6 := hg6.size
        clear hrow hown6 hg6 hat6 hallx hNx HOWN HALL HAP HD HAD HN f0 f1 f2 f3 f4 f5 f6 f7 f8 f9
        go_roundw
        case rel => exact ⟨j + 1, val_int (by omega), by omega, ⟨d ++ [y], HR.out, by rw [List.length_append]; simp; omega, HD6.out⟩, HA6.out, HAD6.out, HAP6.out, HN6.out, by omega, x6⟩
        case measure => simp [intOf]; omega
    · have hj1 : ¬ ((j : Int) < ls.length) := by omega
      have hN := HN.out
      have hD := HD.out
      have hown := HOWN.out
      have hm8 : d.length ≤ 8 := by omega
      obtain ⟨AD, cD, rfl, hcD⟩ := own_form hown
      have hcDm := (own_bounds hown).2
      have HAM : Hid (allMay d = true) := Lib.hid (by
        unfold allMay
        rw [List.all_eq_true]
        exact fun y hy => (hD y hy).2)
      have htd : Ts wr AD d.length d := Ts.of_own hown (fun y hy => (hD y hy).1.ok hx) (by omega)
      have HS := Lib.hid (net_Send (fun k => k == g) g netZ AD d.length cD d wr hN htd (by omega) (fun y hy => by have := (hD y hy).1.few; omega) (by simp [netZ]; omega) (by simp [netZ]; omega))
      have HSC : Hid (sendC netZ.n d = 0) := Lib.hid (by
        unfold sendC
        rw [if_neg (by rw [HAM.out]; simp), if_neg]
        unfold roomN netZ
        simp; omega)
      have HSP : Hid (netZ.p.send d = ⟨d.map letB, d.length, 0, 0⟩) := Lib.hid (by
        unfold NetP.send
        rw [if_neg (by rw [HAM.out]; simp)]
        have : roomN netZ.p.row.length d.length = d.length := by unfold roomN; simp [netZ, NetV.p]; omega
        rw [this, List.take_of_length_le (by simp)]
        simp [netZ, NetV.p])
      have HROW := Lib.hid hown
      have HDY := Lib.hid hD
      have HNB := Lib.hid hN.blk
      clear hown hD hN htd HN HD HOWN HALL HAD HAP hts
      go_wp2_with fail
      refine HS.out.mono ?_
      rintro e w7 ⟨x7, F7, rfl, hN7, hp7, hF7, hf7⟩
      rw [HSC.out]
      clear HS HSC
      rw [HSP.out] at hp7
      have hFb7 : ∀ k, F7 k = true → g ≤ k := fun k hk => by
        by_cases h : k < wr.heap.size
        · rw [hF7 k h] at hk
          have : k = g := (by simpa using hk)
          omega
        · omega
      have xw7 : Ext w w7 := hf7.below hx hx.size (fun k hk => by have : k = g := (by simpa using hk); omega)
      have hmk7 : Ext (mask (fun k => k == g) wr) (mask F7 w7) := hf7.masks hF7
      have hwm7 : Ext w (mask F7 w7) := xw7.masked (fun k hk => by have := hFb7 k hk; omega)
      have hrow7 : (mask F7 w7).ownsRow B2 26 10 (.slice AD d.length cD) d.length (thingsOf d) := own_ext (own_mask HROW.out (fun k hk => by
        have hne := own_blk_ne HROW.out HNB.out (by decide)
        cases e : (k == g) with
        | false => rfl
        | true => rw [eq_of_beq e] at hk; exact absurd hk hne)) hmk7
      have hdm7 : ∀ y ∈ d, y.Ok (mask F7 w7) := fun y hy => by
        have hY := (HDY.out y hy).1
        have hne := own_blk_ne hY.row HNB.out (by decide)
        have hM : OwnY (mask (fun k => k == g) wr) B2 w y := ⟨own_mask hY.row (fun k hk => by
          cases e : (k == g) with
          | false => rfl
          | true => rw [eq_of_beq e] at hk; exact absurd hk hne), hY.es, hY.few, hY.u0, hY.u1, hY.u2, hY.u3, hY.u4, hY.u5, hY.u6, hY.u7⟩
        exact (hM.ext hmk7).ok hwm7
      have htm7 : Ts (mask F7 w7) AD d.length d := Ts.of_own hrow7 hdm7 (by omega)
      have hdfew : ∀ y ∈ d, y.n ≤ 6 ∧ mayB y = true := fun y hy => ⟨(HDY.out y hy).1.few, (HDY.out y hy).2⟩
      have hdo7 : ∀ y ∈ d, OwnY (mask F7 w7) B2 w y ∧ mayB y = true := fun y hy => by
        have hY := (HDY.out y hy).1
        have hne := own_blk_ne hY.row HNB.out (by decide)
        have hM : OwnY (mask (fun k => k == g) wr) B2 w y := ⟨own_mask hY.row (fun k hk => by
          cases e : (k == g) with
          | false => rfl
          | true => rw [eq_of_beq e] at hk; exact absurd hk hne), hY.es, hY.few, hY.u0, hY.u1, hY.u2, hY.u3, hY.u4, hY.u5, hY.u6, hY.u7⟩
        exact ⟨hM.ext hmk7, (HDY.out y hy).2⟩
      have hB7 : B2 ≤ w7.heap.size := Nat.le_trans hBw hf7.size
      clear HROW HDY HNB hmk7 hF7 hf7 hdm7 htm7 hwm7 hdfew
      have hS7 : SS w w7 F7 g x7 (.slice AD d.length cD) d B2 := ⟨hN7, fun k hk => by have := hFb7 k hk; omega, hrow7, hdo7, xw7⟩
      have hwB : w.heap.size ≤ B2 := by omega
      clear hjn hj1 hj hdj hl8 hl0 hsz4 hBw hx HAM HSP hrow7 hdo7 xw7 hFb7 hcD hg2
      have hn7 : x7.n = d.length := by rw [NetV.n_p hN7, hp7]; simp
      have ht7 : x7.taken = 0 := by have : x7.p.taken = 0 := (by rw [hp7]); exact this
      have hs7 : x7.sent = d.length := by have : x7.p.sent = d.length := (by rw [hp7]); exact this
      have hr7 : x7.p.row = d.map letB := by rw [hp7]
      have HL7 := Lib.hid (net_Len F7 g x7 w7 hN7)
      rw [hn7] at HL7
      have hnn := bne_f (show ((d.length : Nat) : Int) = d.length from rfl)
      have HS7 := Lib.hid hS7
      have HR7 := Lib.hid hr7
      have HT7 := Lib.hid ht7
      have HN7 := Lib.hid hn7
      have HTW := Lib.hid (fun i : Int => net_Twice F7 g x7 i w7 hN7 (by omega))
      clear hp7 hn7 ht7 hs7 hN7 hS7 hr7
      go_wp2_with fail
      refine HL7.out.mono ?_
      rintro e w8 ⟨rfl, hw8⟩
      subst w8
      clear HL7
      go_upto_if 63 with fail
      go_cut [9] (fun v wx => ∃ (F : Nat → Bool) (x : NetV) (d : List LV), SS w wx F g x v d B2 ∧ x.p.row = d.map letB ∧ x.taken = 0 ∧ d.length ≤ 9)
      case first =>
        by_cases hd0 : d.length = 0
        · have hd1 : ¬ ((0 : Int) < d.length) := by omega
          clear hd0
          go_wp2_with fail
          go_meet
          exact ⟨F7, x7, d, HS7.out, HR7.out, HT7.out, by omega⟩
        · have hd1 : (0 : Int) < d.length := by omega
          obtain ⟨t, rfl⟩ := Int.eq_ofNat_of_zero_le ht0
          have hrem : (t : Int) % (d.length : Int) = ((t % d.length : Nat) : Int) := (Int.natCast_emod t d.length).symm
          obtain ⟨k, hk⟩ : ∃ k, k = t % d.length := ⟨_, rfl⟩
          have hkd : k < d.length := by rw [hk]; exact Nat.mod_lt _ (by omega)
          rw [← hk] at hrem
          clear hk
          have hk0 : (0 : Int) ≤ k := by omega
          have hk1 : (k : Int) < d.length := by omega
          have hth : thereB x7.n k = true := by rw [HN7.out]; unfold thereB; simp; omega
          have hcode : twiceC x7.n k = 0 := by unfold twiceC; rw [hth, HN7.out]; simp; omega
          have HTP : Hid (x7.p.twice k = ⟨d.map letB ++ [letB d[k]], x7.p.sent + 1, x7.p.taken, x7.p.lost⟩) := Lib.hid (by
            have hlen : x7.p.row.length = x7.n := by rw [HR7.out, HN7.out]; simp
            unfold NetP.twice NetP.at
            rw [hlen, if_neg (by rw [hth]; simp), if_neg (by rw [HN7.out]; omega), if_pos hth, HR7.out]
            simp [List.getElem?_eq_getElem hkd])
          have HC := Lib.hid hcode
          have HK := Lib.hid (HTW.out k)
          clear hth hcode HTW
          go_upto_region 16 with fail
          rw [hrem]
          go_wp2_with fail
          refine HK.out.mono ?_
          rintro e w8 ⟨x8, F8, rfl, hN8, hp8, hF8, hf8⟩
          rw [HC.out]
          have hS8 := HS7.out.step hN8 hF8 hf8
          have hr8 : x8.p.row = (d ++ [d[k]]).map letB := by rw [hp8, HTP.out]; simp
          have ht8 : x8.taken = 0 := by have : x8.p.taken = x7.p.taken := (by rw [hp8, HTP.out]); exact this.trans HT7.out
          have hts8 := (hS8.ts rfl).unmask
          have hB8 : B2 ≤ w8.heap.size := Nat.le_trans hB7 hf8.size
          have hyd : d[k] ∈ d := List.getElem_mem _
          have HR8 := Lib.hid hr8
          have HT8 := Lib.hid ht8
          have HS8 := Lib.hid hS8
          obtain ⟨b, off, rfl, hbw, hcl⟩ := hts8.at_ hkd
          generalize d[k] = y at *
          have e0 := hcl 0 (by omega)
          have e1 := hcl 1 (by omega)
          have e2 := hcl 2 (by omega)
          have e3 := hcl 3 (by omega)
          have e4 := hcl 4 (by omega)
          have e5 := hcl 5 (by omega)
          have e6 := hcl 6 (by omega)
          have e7 := hcl 7 (by omega)
          have e8 := hcl 8 (by omega)
          have e9 := hcl 9 (by omega)
          simp only [show Thing.cells y = LV.cells y from rfl, LV.cells, List.getElem?_cons_zero, List.getElem?_cons_succ, Nat.add_zero] at e0 e1 e2 e3 e4 e5 e6 e7 e8 e9
          have xal : Ext w8 (w8.alloc (.cells #[.int .i64 y.kind, .int .i64 y.src, .int .i64 y.dst, .int .i64 y.term, .int .i64 y.a, .int .i64 y.b, .int .i64 y.c, .int .i64 y.bin, .bool y.ok, .slice y.A y.n y.cp] 26)) := (Ext.refl w8).alloc _
          have hS9 := HS8.out.ext xal
          have hrow := hS9.own
          have hsz9 := hS9.ex.size
          have HS9 := Lib.hid hS9
          clear hN8 hp8 hF8 hf8 hS8 hr8 ht8 hts8 hcl HTP HK HC xal hS9 HS8
          go_wp2_with (at_builtin; refine wpList_app lettersT (by omega) _ rfl rfl rfl hrow rfl (Rd.block w8 #[.int .i64 y.kind, .int .i64 y.src, .int .i64 y.dst, .int .i64 y.term, .int .i64 y.a, .int .i64 y.b, .int .i64 y.c, .int .i64 y.bin, .bool y.ok, .slice y.A y.n y.cp] 26 1 rfl) (Thing.one y) (by unfold maxLen; omega) (by omega) (Nat.le_trans hB8 (by simp)) ?_; intro v6 w6 hown6 hg6 hat6)
          have hS6 := HS9.out.push hyd hwB hown6 hg6 hat6
          go_meet
          exact ⟨F8, x8, d ++ [y], hS6, HR8.out, HT8.out, by simp; omega⟩
      case rest =>
        clear HS7 HR7 HT7 HN7 HTW hm8 ht0 ht1 hB7 hcDm hnn
        obtain ⟨F0, x0, d0, hS0, hr0, htk0, hd09⟩ := hcut
        have HS0 := Lib.hid hS0
        have HR0 := Lib.hid hr0
        have HT0 := Lib.hid htk0
        clear hS0 hr0 htk0
        have hla := hba.len
        have hna9 : na ≤ 9223372036854775807 := by unfold maxLen at hcma; omega
        go_wp2_with fail
        go_loopw [9, 13] (fun v i wr => ∃ q : Nat, i = .int .i64 q ∧ (∃ (F : Nat → Bool) (x : NetV) (d : List LV), SS w wr F g x v d B2 ∧ Hid (x.p.row = d.map letB) ∧ x.taken + d.length ≤ 9 ∧ q + d.length ≤ 9)) (fun v _ _ => lenOf v)
        case atStart => exact ⟨0, rfl, ⟨F0, x0, d0, HS0.out, HR0, by have := HT0.out; omega, by omega⟩⟩
        case round =>
          clear HS0 HR0 HT0
          obtain ⟨q, rfl, ⟨F, x, d, hS, HR, htk, hqd⟩⟩ := hrel
          obtain ⟨wp, rfl⟩ : ∃ wp : World, wp = wr := ⟨_, rfl⟩
          obtain ⟨vo, rfl⟩ : ∃ vo : Value, vo = u9 := ⟨_, rfl⟩
          obtain ⟨AD, cD, rfl, hcD⟩ := own_form hS.own
          have hcDm := (own_bounds hS.own).2
          have hxn : x.n = d.length := by rw [NetV.n_p hS.nn, HR.out, List.length_map]
          have HS := Lib.hid hS
          have HXN := Lib.hid hxn
          clear hS hxn
          by_cases hd0 : 0 < d.length
          · have hd1 : (0 : Int) < d.length := by omega
            have hq0 : (0 : Int) ≤ q := by omega
            go_upto_if 88 with fail
            go_cut [14] (fun v wx => wx = wp ∧ ∃ k : Nat, v = .int .i64 k ∧ k < d.length)
            case first =>
              by_cases hqa : q < na
              · have hqa1 : (q : Int) < na := by omega
                obtain ⟨ba, oa, rfl, hca⟩ := (hba.ext HS.out.ex).at_ hqa
                obtain ⟨z, hz⟩ : ∃ z : Nat, z = (la[q]'(by omega)).toNat := ⟨_, rfl⟩
                have hz1 : z < 256 := by rw [hz]; exact UInt8.toNat_lt _
                rw [← hz] at hca
                clear hz
                have hz2 : (z : Int) < 256 := by omega
                have hrem : (z : Int) % (d.length : Int) = ((z % d.length : Nat) : Int) := (Int.natCast_emod _ d.length).symm
                go_wp2_with fail
                go_meet
                exact ⟨rfl, z % d.length, by rw [hrem], Nat.mod_lt _ hd0⟩
              · have hqa1 : ¬ ((q : Int) < na) := by omega
                go_wp2_with fail
                go_meet
                exact ⟨rfl, 0, rfl, hd0⟩
            case rest =>
              obtain ⟨hwx, k, rfl, hkd⟩ := hcut
              obtain ⟨wq, rfl⟩ : ∃ wq : World, wq = wc := ⟨_, rfl⟩
              subst hwx
              have hk0 : (0 : Int) ≤ k := by omega
              have hk1 : (k : Int) < d.length := by omega
              have hth : thereB x.n k = true := by rw [HXN.out]; unfold thereB; simp; omega
              have hat : x.at k = letB d[k] := by
                rw [← NetV.at_p HS.out.nn]
                unfold NetP.at
                rw [← NetV.n_p HS.out.nn, if_pos hth, HR.out]
                simp [List.getElem?_eq_getElem hkd]
              obtain ⟨hyY, hymB⟩ := HS.out.el d[k] (List.getElem_mem _)
              have HTK := Lib.hid (net_Take F g x k wq HS.out.nn (by omega))
              have HTP := Lib.hid (take_p HS.out.nn hth)
              have hym6 := hyY.few
              have HYO : Hid (∀ (V : World), Ext (mask F wq) (mask F V) → (d[k]).Ok V) := Lib.hid (fun V h => (show LV.Ok d[k] (mask F V) from ((HS.out.ts rfl).ext h).ok d[k] (List.getElem_mem _)).unmask)
              have HCL : Hid (∀ (V : World), Ext (mask F wq) (mask F V) → ∃ b off, AD = some ⟨b, off, none⟩ ∧ b < V.heap.size ∧ ∀ kk, kk < 10 → V.cell? ⟨b, off + k * 10 + kk, none⟩ = (d[k]).cells[kk]?) := Lib.hid (fun V h => (((HS.out.ts rfl).ext h).unmask).at_ hkd)
              have HTH := Lib.hid hth
              have HAT := Lib.hid hat
              have HYB := Lib.hid hymB
              generalize d[k] = y at *
              clear hat hth hymB hyY
              go_wp2_with fail
              refine HTK.out.mono ?_
              rintro e w10 ⟨lx, code, rfl, hox, hxn, hres, hN10, hf10⟩
              have hm10 : Ext (mask F wq) (mask F w10) := hf10.masks (fun _ _ => rfl)
              have hS10 := HS.out.step hN10 (fun _ _ => rfl) hf10
              obtain ⟨rfl, heq⟩ := take_back hres HTH.out HAT.out (HYO.out wq (Ext.refl _)) HYB.out
              have heq2 := letEq_symm heq
              unfold LV.val
              go_upto_region 26 with fail
              have hB := Blk.new w10 26 [.int .i64 lx.kind, .int .i64 lx.src, .int .i64 lx.dst, .int .i64 lx.term, .int .i64 lx.a, .int .i64 lx.b, .int .i64 lx.c, .int .i64 lx.bin, .bool lx.ok, .slice lx.A lx.n lx.cp]
              have x11 : Ext w10 (w10.alloc (.cells #[.int .i64 lx.kind, .int .i64 lx.src, .int .i64 lx.dst, .int .i64 lx.term, .int .i64 lx.a, .int .i64 lx.b, .int .i64 lx.c, .int .i64 lx.bin, .bool lx.ok, .slice lx.A lx.n lx.cp] 26)) := (Ext.refl w10).alloc _
              have hm11 := hm10.trans x11.masks
              have hS11 := hS10.ext x11
              have hox11 := (hox.ok).ext x11
              generalize w10.heap.size = gx at hB ⊢
              generalize w10.alloc (.cells #[.int .i64 lx.kind, .int .i64 lx.src, .int .i64 lx.dst, .int .i64 lx.term, .int .i64 lx.a, .int .i64 lx.b, .int .i64 lx.c, .int .i64 lx.bin, .bool lx.ok, .slice lx.A lx.n lx.cp] 26) = W11 at *
              have HSM := Lib.hid (fun (V : World) (h : Ext W11 V) => ref16_SameB lx y true heq2 V (hox11.ext h) ((HYO.out W11 hm11).ext h) (by omega) (by omega))
              unfold LV.val at HSM
              obtain ⟨b, off, hAD, _, hcl⟩ := HCL.out W11 hm11
              have HSX := Lib.hid (fun (V : World) (h : Ext W11 V) => (show (V.cell? ⟨gx, 0, none⟩ = some (.int .i64 lx.kind) ∧ V.cell? ⟨gx, 1, none⟩ = some (.int .i64 lx.src) ∧ V.cell? ⟨gx, 2, none⟩ = some (.int .i64 lx.dst) ∧ V.cell? ⟨gx, 3, none⟩ = some (.int .i64 lx.term) ∧ V.cell? ⟨gx, 4, none⟩ = some (.int .i64 lx.a) ∧ V.cell? ⟨gx, 5, none⟩ = some (.int .i64 lx.b) ∧ V.cell? ⟨gx, 6, none⟩ = some (.int .i64 lx.c) ∧ V.cell? ⟨gx, 7, none⟩ = some (.int .i64 lx.bin) ∧ V.cell? ⟨gx, 8, none⟩ = some (.bool lx.ok) ∧ V.cell? ⟨gx, 9, none⟩ = some (.slice lx.A lx.n lx.cp)) ∧ (V.cell? ⟨b, off + k * 10, none⟩ = some (.int .i64 y.kind) ∧ V.cell? ⟨b, off + k * 10 + 1, none⟩ = some (.int .i64 y.src) ∧ V.cell? ⟨b, off + k * 10 + 2, none⟩ = some (.int .i64 y.dst) ∧ V.cell? ⟨b, off + k * 10 + 3, none⟩ = some (.int .i64 y.term) ∧ V.cell? ⟨b, off + k * 10 + 4, none⟩ = some (.int .i64 y.a) ∧ V.cell? ⟨b, off + k * 10 + 5, none⟩ = some (.int .i64 y.b) ∧ V.cell? ⟨b, off + k * 10 + 6, none⟩ = some (.int .i64 y.c) ∧ V.cell? ⟨b, off + k * 10 + 7, none⟩ = some (.int .i64 y.bin) ∧ V.cell? ⟨b, off + k * 10 + 8, none⟩ = some (.bool y.ok) ∧ V.cell? ⟨b, off + k * 10 + 9, none⟩ = some (.slice y.A y.n y.cp)) from
                ⟨⟨(hB.ext h).cell 0, (hB.ext h).cell 1, (hB.ext h).cell 2, (hB.ext h).cell 3, (hB.ext h).cell 4, (hB.ext h).cell 5, (hB.ext h).cell 6, (hB.ext h).cell 7, (hB.ext h).cell 8, (hB.ext h).cell 9⟩,
                 ⟨h.cell (hcl 0 (by omega)), h.cell (hcl 1 (by omega)), h.cell (hcl 2 (by omega)), h.cell (hcl 3 (by omega)), h.cell (hcl 4 (by omega)), h.cell (hcl 5 (by omega)), h.cell (hcl 6 (by omega)), h.cell (hcl 7 (by omega)), h.cell (hcl 8 (by omega)), h.cell (hcl 9 (by omega))⟩⟩))
              have HS11 := Lib.hid hS11
              obtain ⟨htp1, htp2⟩ := HTP.out
              have HTP1 : Hid ((x.take k).p.row = (d.eraseIdx k).map letB) := Lib.hid (by
                rw [htp1, HR.out, Int.toNat_natCast, List.eraseIdx_eq_take_drop_succ, List.eraseIdx_eq_take_drop_succ, List.map_append, List.map_take, List.map_drop])
              have HTP2 := Lib.hid htp2
              clear HTK hox hres hN10 hf10 hm10 heq heq2 hB x11 hm11 hS10 hS11 hox11 hcl HCL HYO HAT HTP htp1 htp2
              subst hAD
              obtain ⟨⟨c0, c1, c2, c3', c4, c5, c6, c7, c8, c9⟩, e0, e1, e2, e3, e4, e5, e6, e7, e8, e9⟩ := HSX.out _ (Ext.refl W11)
              have y0 : Ext W11 W11.drew := (Ext.refl W11).drew
              go_region_held3 (fun V => (V.cell? ⟨gx, 0, none⟩ = some (.int .i64 lx.kind) ∧ V.cell? ⟨gx, 1, none⟩ = some (.int .i64 lx.src) ∧ V.cell? ⟨gx, 2, none⟩ = some (.int .i64 lx.dst) ∧ V.cell? ⟨gx, 3, none⟩ = some (.int .i64 lx.term) ∧ V.cell? ⟨gx, 4, none⟩ = some (.int .i64 lx.a) ∧ V.cell? ⟨gx, 5, none⟩ = some (.int .i64 lx.b) ∧ V.cell? ⟨gx, 6, none⟩ = some (.int .i64 lx.c) ∧ V.cell? ⟨gx, 7, none⟩ = some (.int .i64 lx.bin) ∧ V.cell? ⟨gx, 8, none⟩ = some (.bool lx.ok) ∧ V.cell? ⟨gx, 9, none⟩ = some (.slice lx.A lx.n lx.cp)) ∧ (V.cell? ⟨b, off + k * 10, none⟩ = some (.int .i64 y.kind) ∧ V.cell? ⟨b, off + k * 10 + 1, none⟩ = some (.int .i64 y.src) ∧ V.cell? ⟨b, off + k * 10 + 2, none⟩ = some (.int .i64 y.dst) ∧ V.cell? ⟨b, off + k * 10 + 3, none⟩ = some (.int .i64 y.term) ∧ V.cell? ⟨b, off + k * 10 + 4, none⟩ = some (.int .i64 y.a) ∧ V.cell? ⟨b, off + k * 10 + 5, none⟩ = some (.int .i64 y.b) ∧ V.cell? ⟨b, off + k * 10 + 6, none⟩ = some (.int .i64 y.c) ∧ V.cell? ⟨b, off + k * 10 + 7, none⟩ = some (.int .i64 y.bin) ∧ V.cell? ⟨b, off + k * 10 + 8, none⟩ = some (.bool y.ok) ∧ V.cell? ⟨b, off + k * 10 + 9, none⟩ = some (.slice y.A y.n y.cp)))
                (first | (exact HSX.out _ y1) | (exact HSX.out _ y0) | (exact HSX.out _ (Ext.refl W11)) | go_keep)
                (first
                  | (go_at_call 19; refine (HSM.out _ y0).mono ?_; rintro e w12 ⟨rfl, y1'⟩; have y1 := y0.trans y1'; clear y1'))
              have hS12 := HS11.out.ext y1
              have hown := hS12.own
              obtain ⟨A2, c2', hc2, hsl, hrdp⟩ := cut_from lettersT (some (⟨b, off, none⟩ : Addr)) (show k + 1 ≤ d.length by omega) hcD ((k : Int) + 1) (by omega)
              have hrd := Rd.of_own hown
              have hwr : IntKind.i64.wrap ((k : Int) + 1) = (k : Int) + 1 := IntWalk.i64_in _ ⟨by omega, by omega⟩
              have hr1 : Rd w12 (some ⟨b, off, none⟩) k 10 (thingsOf (d.take k)) := by
                have := hrd.part (lo := 0) (m := k) (by omega) (some ⟨b, off, none⟩) (fun _ b' o' e => by simpa using e)
                rw [thingsOf_take]
                simpa using this
              have hr2 : Rd w12 A2 (d.length - (k + 1)) 10 (thingsOf (d.drop (k + 1))) := by
                have := hrdp _ _ hrd
                rw [thingsOf_drop]; exact this
              have hkc : (k : Int) ≤ cD := by omega
              have HS12 := Lib.hid hS12
              have hB12 : B2 ≤ w12.heap.size := by
                rcases Nat.eq_zero_or_pos d.length with h | h
                · omega
                · have hlt := (hown.lt b rfl); omega
              have HR1 := Lib.hid hr1
              have HR2 := Lib.hid hr2
              have hE := (own_empty w12.drew 26 10)
              clear c0 c1 c2 c3' c4 c5 c6 c7 c8 c9 e0 e1 e2 e3 e4 e5 e6 e7 e8 e9 HSX HSM y0 y1 hS12 hown hrdp hrd hr1 hr2 HS11
              go_upto_region 29 with fail
              go_region_law (first
                | (refine step_app lettersT (by omega) _ rfl rfl (by simp [Act.eval]) hE (by simp [Act.eval]; rfl) ((HR1.out.ext (Ext.refl w12).drew).alloc _) (thingsOf_cells _) (by unfold maxLen; omega) (by omega) (by simp) ?_; intro v3 w13 hown3 hg3 hat3; have x13 : Ext w12 w13 := Below.app (((Ext.refl w12).drew).alloc _) hg3 (by simp) hE (Nat.le_refl _); have hr4 := HR2.out.ext x13; have hs13 : w12.drew.heap.size ≤ w13.heap.size := x13.size)
                | (refine step_app lettersT (by omega) _ rfl rfl (by simp [Act.eval]) hown3 (by simp [Act.eval]; rfl) hr4 (thingsOf_cells _) (by unfold maxLen; omega) (by omega) hs13 ?_; intro v5 w14 hown5 hg5 hat5; have x14 : Ext w12 w14 := Below.app x13 hg5 hs13 hown3 (Nat.le_refl _)))
              all_goals
                have hS12 := HS12.out
                obtain ⟨A5, c5, rfl, _⟩ := own_form hown5
                have hnew : w14.ownsRow B2 26 10 (.slice A5 (0 + k + (d.length - (k + 1))) c5) (d.eraseIdx k).length (thingsOf (d.eraseIdx k)) := own_to hown5 (by have := hS12.own; have := hB12; show B2 ≤ w12.heap.size; omega) (by rw [List.length_eraseIdx, if_pos hkd]; omega) (by rw [List.eraseIdx_eq_take_drop_succ, thingsOf_append]; rfl)
                have HSS : Hid (SS w w14 F g (x.take k) (.slice A5 (0 + k + (d.length - (k + 1))) c5) (d.eraseIdx k) B2) := Lib.hid ⟨IsNet.ext hS12.nn x14, hS12.lb, own_mask hnew (fun k' hk' => by
                    have h1 : w12.heap.size ≤ k' := (hown5.lt k' hk').1
                    cases e : F k' with
                    | false => rfl
                    | true => have := hS12.nn.ub k' e; omega), fun z hz => ⟨(hS12.el z (List.mem_of_mem_eraseIdx hz)).1.ext x14.masks, (hS12.el z (List.mem_of_mem_eraseIdx hz)).2⟩, hS12.ex.trans x14⟩
                have hle : (d.eraseIdx k).length = d.length - 1 := by rw [List.length_eraseIdx, if_pos hkd]
                clear hown3 hg3 hat3 x13 hr4 hs13 hown5 hg5 hat5 x14 hnew hS12
                go_wp2_with fail
                go_roundw
                case rel => exact ⟨q + 1, val_int (by omega), ⟨F, x.take k, d.eraseIdx k, by have h := HSS.out; rw [Nat.zero_add] at h; exact h, HTP1, by have := HTP2.out; omega, by omega⟩⟩
                case measure => simp [lenOf]; omega
          · have hd1 : ¬ ((0 : Int) < d.length) := by omega
            have hx0 : x.n = 0 := by rw [HXN.out]; omega
            have HTK := Lib.hid (net_Take F g x 0 wp HS.out.nn (by have := HS.out.nn.t0; omega))
            have HEX := Lib.hid HS.out.ex
            have HLB := Lib.hid HS.out.lb
            have hth : thereB x.n 0 = false := by rw [hx0]; rfl
            have hxt : (x.take 0).n = 0 := by unfold NetV.take; rw [if_neg (by rw [hth]; simp)]; exact hx0
            have HTH := Lib.hid hth
            have HXT := Lib.hid hxt
            clear HS hx0 hth hxt HR HXN
            go_wp2_with fail
            refine HTK.out.mono ?_
            rintro e w10 ⟨lx, code, rfl, hox, hxn, hres, hN10, hf10⟩
            have hx10 : Ext w w10 := hf10.below HEX.out HEX.out.size HLB.out
            have hcode : code = 1 := by
              rcases hres with ⟨_, _, h⟩ | ⟨h, _⟩
              · exact h
              · rw [HTH.out] at h; cases h
            subst hcode
            have HL := Lib.hid (fun (V : World) (h : Ext w10 V) => net_Len F g (x.take 0) V (IsNet.ext hN10 h))
            rw [HXT.out] at HL
            clear HTK hres hN10 hf10 hox
            unfold LV.val
            go_upto_region 31 with fail
            have xal : Ext w10 (w10.alloc (.cells #[.int .i64 lx.kind, .int .i64 lx.src, .int .i64 lx.dst, .int .i64 lx.term, .int .i64 lx.a, .int .i64 lx.b, .int .i64 lx.c, .int .i64 lx.bin, .bool lx.ok, .slice lx.A lx.n lx.cp] 26)) := (Ext.refl w10).alloc _
            have HL2 := Lib.hid (HL.out _ xal)
            have hx11 := hx10.trans xal
            clear HL xal
            go_wp2_with fail
            refine HL2.out.mono ?_
            rintro e w11 ⟨rfl, hw11⟩
            subst w11
            go_wp2_with fail
            go_ret
            exact ⟨rfl, hx11⟩
end Go.Proofs.Ytcoaofaofmbfbaa
