/- Words and walks that the last text of this claim stands on: NtO. No condition. -/
import Derived.Test.YtcoaofaofmbfbaaB33
import Derived.Test.YtcoaofaofmbfbaaB32
import Derived.Test.YtcoaofaofmbfbaaB21
/- The walk of the law NetClones. (Printed by wip/tools/ntclones.py.) -/
namespace Go.Proofs.Ytcoaofaofmbfbaa
open Go.RowKit

theorem and3 (x : Nat) (h : x < 256) : bits .and .u8 (x : Int) 3 = ((x % 4 : Nat) : Int) := by
  have : ∀ y : Fin 256, bits .and .u8 ((y.val : Nat) : Int) 3 = ((y.val % 4 : Nat) : Int) := by decide +kernel
  exact this ⟨x, h⟩
theorem Ts.unmask {F : Nat → Bool} {w : World} {A : Option Addr} {n : Nat} {l : List LV} (h : Ts (mask F w) A n l) : Ts w A n l := ⟨Rd.unmask h.rd, fun f hf => (show LV.Ok f (mask F w) from h.ok f hf).unmask, h.pos⟩
theorem letEq_symm {x y : LV} (h : letEq x y = true) : letEq y x = true := letEq_iff.2 (letEq_iff.1 h).symm
theorem take_p {w : World} {F : Nat → Bool} {g : Nat} {x : NetV} {i : Int} (_h : Net w F g x) (ht : thereB x.n i = true) : (x.take i).p.row = x.p.row.eraseIdx i.toNat ∧ (x.take i).taken = x.taken + 1 := by
  unfold NetV.take
  rw [if_pos ht]
  refine ⟨?_, rfl⟩
  show (x.l.eraseIdx i.toNat).map BSV.b = (x.l.map BSV.b).eraseIdx i.toNat
  rw [List.eraseIdx_eq_take_drop_succ, List.eraseIdx_eq_take_drop_succ, List.map_append, List.map_take, List.map_drop]
/-- a net, its clone, and letters that both leave alone -/
structure CS (w wr : World) (Fn F8 : Nat → Bool) (g gc : Nat) (x c8 : NetV) (A : Option Addr) (m : Nat) (d : List LV) : Prop where
  nn : Net wr Fn g x
  lb : ∀ k, Fn k = true → w.heap.size ≤ k
  cn : Net wr F8 gc c8
  l8 : ∀ k, F8 k = true → w.heap.size ≤ k
  dj : ∀ k, F8 k = true → Fn k = false
  ts : Ts (mask (fun k => Fn k || F8 k) wr) A m d
  ex : Ext w wr
theorem CS.ext {w wr W : World} {Fn F8 : Nat → Bool} {g gc : Nat} {x c8 : NetV} {A : Option Addr} {m : Nat} {d : List LV} (h : CS w wr Fn F8 g gc x c8 A m d) (he : Ext wr W) : CS w W Fn F8 g gc x c8 A m d :=
  ⟨IsNet.ext h.nn he, h.lb, IsNet.ext h.cn he, h.l8, h.dj, h.ts.ext he.masks, h.ex.trans he⟩
theorem CS.step {w W W' : World} {Fn Fn' F8 : Nat → Bool} {g gc : Nat} {x x' c8 : NetV} {A : Option Addr} {m : Nat} {d : List LV} (h : CS w W Fn F8 g gc x c8 A m d) (hN : Net W' Fn' g x') (hF : ∀ k, k < W.heap.size → Fn' k = Fn k) (hf : Fr Fn W W') : CS w W' Fn' F8 g gc x' c8 A m d :=
  ⟨hN, fun k hk => by
    by_cases hlt : k < W.heap.size
    · rw [hF k hlt] at hk; exact h.lb k hk
    · have := h.ex.size; omega, IsNet.fr h.cn hf h.dj, h.l8, fun k hk => by rw [hF k (h.cn.ub k hk)]; exact h.dj k hk,
   h.ts.ext ((hf.mono (G := fun k => Fn k || F8 k) (fun k _ hk => by simp [hk])).masks (fun k hk => by simp [hF k hk])), hf.below h.ex h.ex.size h.lb⟩
set_option maxRecDepth 100000 in
set_option maxHeartbeats 6400000 in
theorem law_NetClones (A : Option Addr) (n c : Nat) (l : List LV) (Ao : Option Addr) (no co : Nat) (lo : List OpV) (w : World) (hl : Ts w A n l) (hnc : n ≤ c) (hcm : c ≤ maxLen) (hlo : Ts w Ao no lo) (hnco : no ≤ co) (hcmo : co ≤ maxLen) :
    Calls Try.prog 10 #[.slice A n c, .slice Ao no co] w fun e w' => e = .returned (.bool true) ∧ Ext w w' := by
  have hl0 := hl
  go_enter Try.func10, Try.ntmps10
  go_wp2_with fail
  refine (law21_shown w).mono ?_
  rintro e w1 ⟨rfl, x1⟩
  go_wp2_with fail
  refine (net_New w1).mono ?_
  rintro e w2 ⟨rfl, hN, x2⟩
  have HN := Lib.hid hN
  have xw2 := x1.trans x2
  have hg := x1.size
  have hg2 : w1.heap.size < w2.heap.size := hN.blk.lt
  generalize w1.heap.size = g at *
  have hown0 : (w2.alloc (.cells #[] 26)).ownsRow w2.heap.size 26 10 (.slice (some ⟨w2.heap.size, 0, none⟩) 0 0) 0 [] := own_empty w2 26 10
  have xw3 : Ext w (w2.alloc (.cells #[] 26)) := xw2.alloc _
  have HLS := Lib.hid (law21_letters A n c l w _ hl xw3 hnc hcm)
  have HO0 := Lib.hid hown0
  have hsz3 : (w2.alloc (.cells #[] 26)).heap.size = w2.heap.size + 1 := by simp
  have HSZ := Lib.hid hsz3
  have HN3 := Lib.hid (IsNet.ext hN ((Ext.refl w2).alloc (.cells #[] 26)))
  clear hN x1 x2 xw2 hown0 hl hsz3 HN
  go_wp2_with fail
  refine HLS.out.mono ?_
  rintro e w4 ⟨v4, ls, rfl, hown4, hl8, hD, x4⟩
  obtain ⟨A3, c3, rfl, _⟩ := own_form hown4
  have xw4 := xw3.trans x4
  have hsz4 : w2.heap.size + 1 ≤ w4.heap.size := by have := x4.size; rw [HSZ.out] at this; exact this
  have HO4 := Lib.hid (own_ext HO0.out x4)
  have HN4 := Lib.hid (IsNet.ext HN3.out x4)
  have HALL := Lib.hid (own_base (base' := w2.heap.size) hown4 (by rw [HSZ.out]; omega))
  have HAD := Lib.hid (fun y hy => (hD y hy).to (B' := w2.heap.size) (by rw [HSZ.out]; omega))
  have HAP : Hid ((Value.slice (some ⟨w2.heap.size, 0, none⟩) 0 0).ownBlock = none ∨ (Value.slice (some ⟨w2.heap.size, 0, none⟩) 0 0).ownBlock ≠ (Value.slice A3 ls.length c3).ownBlock) := Lib.hid (.inr (fun e => by
    have h := (hown4.lt _ e.symm).1
    rw [HSZ.out] at h
    exact absurd h (by show ¬ (w2.heap.size + 1 ≤ w2.heap.size); omega)))
  have HXX := Lib.hid xw4
  clear HLS hown4 hD x4 xw3 HO0 HN3 xw4
  generalize hB2 : w2.heap.size = B2 at *
  clear hB2 HSZ
  go_wp2_with fail
  go_loopw [7, 9] (fun v i wr => ∃ j : Nat, i = .int .i64 j ∧ j ≤ ls.length ∧ (∃ d : List LV, wr.ownsRow B2 26 10 v d.length (thingsOf d) ∧ d.length ≤ j ∧ ∀ y ∈ d, OwnY wr B2 w y ∧ mayB y = true) ∧ wr.ownsRow B2 26 10 (.slice A3 ls.length c3) ls.length (thingsOf ls) ∧ (∀ y ∈ ls, OwnY wr B2 w y) ∧ (v.ownBlock = none ∨ v.ownBlock ≠ (Value.slice A3 ls.length c3).ownBlock) ∧ Net wr (fun k => k == g) g netZ ∧ B2 ≤ wr.heap.size ∧ Ext w wr) (fun _ i _ => ls.length - (intOf i).toNat)
  case atStart => exact ⟨0, rfl, by omega, ⟨[], HO4.out, Nat.le_refl _, by simp⟩, HALL.out, HAD.out, HAP.out, HN4.out, by omega, HXX.out⟩
  case round =>
    clear HO4 HN4 HALL HAD HAP HXX
    obtain ⟨j, rfl, hj, ⟨d, hown, hdj, hD⟩, hall, hAD, hap, hN, hBw, hx⟩ := hrel
    obtain ⟨v9, rfl⟩ : ∃ v9 : Value, v9 = u7 := ⟨_, rfl⟩
    have HAP := Lib.hid hap
    have HOWN := Lib.hid hown
    have HALL := Lib.hid hall
    have HAD := Lib.hid hAD
    have HD := Lib.hid hD
    have HN := Lib.hid hN
    clear hap hown hAD hD hN
    have hts : Ts wr A3 ls.length ls := Ts.of_own hall (fun y hy => (HAD.out y hy).ok hx) (by omega)
    clear hall
    by_cases hjn : j < ls.length
    · have hj0 : (0 : Int) ≤ j := by omega
      have hj1 : (j : Int) < ls.length := by omega
      obtain ⟨b, off, rfl, hbw, hcl⟩ := hts.at_ hjn
      have hyok : (ls[j]).Ok wr := hts.ok ls[j] (List.getElem_mem _)
      have hyY := HAD.out ls[j] (List.getElem_mem _)
      generalize ls[j] = y at *
      have e0 := hcl 0 (by omega)
      have e1 := hcl 1 (by omega)
      have e2 := hcl 2 (by omega)
      have e3 := hcl 3 (by omega)
      have e4 := hcl 4 (by omega)
      have e5 := hcl 5 (by omega)
      have e6 := hcl 6 (by omega)
      have e7 := hcl 7 (by omega)
      have e8 := hcl 8 (by omega)
      have e9 := hcl 9 (by omega)
      simp only [show Thing.cells y = LV.cells y from rfl, LV.cells, List.getElem?_cons_zero, List.getElem?_cons_succ, Nat.add_zero] at e0 e1 e2 e3 e4 e5 e6 e7 e8 e9
      have HM := Lib.hid (ref16_May y wr hyok (by have := hyY.few; omega))
      unfold LV.val at HM
      have HY := Lib.hid hyY
      obtain ⟨m, hm⟩ : ∃ m, mayB y = m := ⟨_, rfl⟩
      have HMB := Lib.hid hm
      clear hts hcl hyok hyY
      rcases m with _ | _
      · rw [mayR_f hm] at HM
        clear hm
        go_wp2_with fail
        refine HM.out.mono ?_
        rintro e w5 ⟨rfl, x5⟩
        go_wp2_with fail
        go_roundw
        case rel => exact ⟨j + 1, val_int (by omega), by omega, ⟨d, own_ext HOWN.out x5, by omega, fun q hq => ⟨(HD.out q hq).1.ext x5, (HD.out q hq).2⟩⟩, own_ext HALL.out x5, fun q hq => (HAD.out q hq).ext x5, HAP.out, IsNet.ext HN.out x5, Nat.le_trans hBw x5.size, hx.trans x5⟩
        case measure => simp [intOf]; omega
      · rw [mayR_t hm] at HM
        clear hm
        go_wp2_with fail
        refine HM.out.mono ?_
        rintro e w5 ⟨rfl, x5⟩
        have f0 := x5.cell e0
        have f1 := x5.cell e1
        have f2 := x5.cell e2
        have f3 := x5.cell e3
        have f4 := x5.cell e4
        have f5 := x5.cell e5
        have f6 := x5.cell e6
        have f7 := x5.cell e7
        have f8 := x5.cell e8
        have f9 := x5.cell e9
        have xal : Ext wr (w5.alloc (.cells #[.int .i64 y.kind, .int .i64 y.src, .int .i64 y.dst, .int .i64 y.term, .int .i64 y.a, .int .i64 y.b, .int .i64 y.c, .int .i64 y.bin, .bool y.ok, .slice y.A y.n y.cp] 26)) := x5.alloc _
        have hrow := own_ext HOWN.out xal
        have hx5 := hx.trans xal
        have hsz5 := xal.size
        clear HM e0 e1 e2 e3 e4 e5 e6 e7 e8 e9
        go_wp2_with (at_builtin; refine wpList_app lettersT (by omega) _ rfl rfl rfl hrow rfl (Rd.block w5 #[.int .i64 y.kind, .int .i64 y.src, .int .i64 y.dst, .int .i64 y.term, .int .i64 y.a, .int .i64 y.b, .int .i64 y.c, .int .i64 y.bin, .bool y.ok, .slice y.A y.n y.cp] 26 1 rfl) (Thing.one y) (by unfold maxLen; omega) (by omega) (by omega) ?_; intro v6 w6 hown6 hg6 hat6)
        have hallx := own_ext HALL.out xal
        have x6 : Ext w w6 := Below.grown hx5 hg6 hx5.size (fun k hk => by have := (hrow.lt k hk).1; omega)
        have HR : Hid (w6.ownsRow B2 26 10 v6 (d ++ [y]).length (thingsOf (d ++ [y]))) := Lib.hid (own_to hown6 (Nat.le_refl _) (by simp) (by rw [thingsOf_append, thingsOf_one]; rfl))
        have HA6 : Hid (w6.ownsRow B2 26 10 (.slice (some ⟨b, off, none⟩) ls.length c3) ls.length (thingsOf ls)) := Lib.hid (own_grown hallx hg6 (own_ne HAP.out))
        have HAP6 : Hid (v6.ownBlock = none ∨ v6.ownBlock ≠ (Value.slice (some ⟨b, off, none⟩) ls.length c3).ownBlock) := Lib.hid (own_ne (apart_new hallx (Nat.le_refl _) (own_ne HAP.out) hat6))
        have HD6 : Hid (∀ q ∈ d ++ [y], OwnY w6 B2 w q ∧ mayB q = true) := Lib.hid (fun q hq => by
          rcases List.mem_append.1 hq with hq | hq
          · exact ⟨((HD.out q hq).1.ext xal).grown hrow hg6, (HD.out q hq).2⟩
          · simp only [List.mem_singleton] at hq
            subst hq
            exact ⟨(HY.out.ext xal).grown hrow hg6, HMB.out⟩)
        have HAD6 : Hid (∀ q ∈ ls, OwnY w6 B2 w q) := Lib.hid (fun q hq => ((HAD.out q hq).ext xal).grown hrow hg6)
        have hNx := IsNet.ext HN.out xal
        have HN6 : Hid (Net w6 (fun k => k == g) g netZ) := Lib.hid (hNx.fr (G := fun k => decide (some k = v9.ownBlock)) (Fr.grown hg6 (fun k hk => by have hk' : v9.ownBlock = some k := hk; simp [hk'])) (fun k hk => by
          have hne := own_blk_ne hrow hNx.blk (by decide)
          have : k = g := by simpa using hk
          subst this
          simpa using fun e => hne e.symm))
        have hs6 := hg6.size
        clear hrow hown6 hg6 hat6 hallx hNx HOWN HALL HAP HD HAD HN f0 f1 f2 f3 f4 f5 f6 f7 f8 f9
        go_roundw
        case rel => exact ⟨j + 1, val_int (by omega), by omega, ⟨d ++ [y], HR.out, by rw [List.length_append]; simp; omega, HD6.out⟩, HA6.out, HAD6.out, HAP6.out, HN6.out, by omega, x6⟩
        case measure => simp [intOf]; omega
    · have hj1 : ¬ ((j : Int) < ls.length) := by omega
      have hN := HN.out
      have hD := HD.out
      have hown := HOWN.out
      have hm8 : d.length ≤ 8 := by omega
      obtain ⟨AD, cD, rfl, hcD⟩ := own_form hown
      have hcDm := (own_bounds hown).2
      have HAM : Hid (allMay d = true) := Lib.hid (by
        unfold allMay
        rw [List.all_eq_true]
        exact fun y hy => (hD y hy).2)
      have htd : Ts wr AD d.length d := Ts.of_own hown (fun y hy => (hD y hy).1.ok hx) (by omega)
      have HS := Lib.hid (net_Send (fun k => k == g) g netZ AD d.length cD d wr hN htd (by omega) (fun y hy => by have := (hD y hy).1.few; omega) (by simp [netZ]; omega) (by simp [netZ]; omega))
      have HSC : Hid (sendC netZ.n d = 0) := Lib.hid (by
        unfold sendC
        rw [if_neg (by rw [HAM.out]; simp), if_neg]
        unfold roomN netZ
        simp; omega)
      have HSP : Hid (netZ.p.send d = ⟨d.map letB, d.length, 0, 0⟩) := Lib.hid (by
        unfold NetP.send
        rw [if_neg (by rw [HAM.out]; simp)]
        have : roomN netZ.p.row.length d.length = d.length := by unfold roomN; simp [netZ, NetV.p]; omega
        rw [this, List.take_of_length_le (by simp)]
        simp [netZ, NetV.p])
      have HROW := Lib.hid hown
      have HDY := Lib.hid hD
      have HNB := Lib.hid hN.blk
      clear hown hD hN htd HN HD HOWN HALL HAD HAP hts
      go_wp2_with fail
      refine HS.out.mono ?_
      rintro e w7 ⟨x7, F7, rfl, hN7, hp7, hF7, hf7⟩
      rw [HSC.out]
      clear HS HSC
      rw [HSP.out] at hp7
      have hFb7 : ∀ k, F7 k = true → g ≤ k := fun k hk => by
        by_cases h : k < wr.heap.size
        · rw [hF7 k h] at hk
          have : k = g := (by simpa using hk)
          omega
        · omega
      have xw7 : Ext w w7 := hf7.below hx hx.size (fun k hk => by have : k = g := (by simpa using hk); omega)
      have hmk7 : Ext (mask (fun k => k == g) wr) (mask F7 w7) := hf7.masks hF7
      have hwm7 : Ext w (mask F7 w7) := xw7.masked (fun k hk => by have := hFb7 k hk; omega)
      have hrow7 : (mask F7 w7).ownsRow B2 26 10 (.slice AD d.length cD) d.length (thingsOf d) := own_ext (own_mask HROW.out (fun k hk => by
        have hne := own_blk_ne HROW.out HNB.out (by decide)
        cases e : (k == g) with
        | false => rfl
        | true => rw [eq_of_beq e] at hk; exact absurd hk hne)) hmk7
      have hdm7 : ∀ y ∈ d, y.Ok (mask F7 w7) := fun y hy => by
        have hY := (HDY.out y hy).1
        have hne := own_blk_ne hY.row HNB.out (by decide)
        have hM : OwnY (mask (fun k => k == g) wr) B2 w y := ⟨own_mask hY.row (fun k hk => by
          cases e : (k == g) with
          | false => rfl
          | true => rw [eq_of_beq e] at hk; exact absurd hk hne), hY.es, hY.few, hY.u0, hY.u1, hY.u2, hY.u3, hY.u4, hY.u5, hY.u6, hY.u7⟩
        exact (hM.ext hmk7).ok hwm7
      have htm7 : Ts (mask F7 w7) AD d.length d := Ts.of_own hrow7 hdm7 (by omega)
      have hdfew : ∀ y ∈ d, y.n ≤ 6 ∧ mayB y = true := fun y hy => ⟨(HDY.out y hy).1.few, (HDY.out y hy).2⟩
      clear HROW HDY HNB hmk7 hF7 hf7 hrow7 hdm7
      clear hjn hj1 hj hdj hl8 hl0 hsz4 hBw hx HAM HSP
      have HC7 := Lib.hid (net_Clone F7 g x7 w7 hN7)
      go_wp2_with fail
      refine HC7.out.mono ?_
      rintro e w8 ⟨c8, F8, rfl, hN8, hp8, hF8, x8⟩
      have hw7 := xw7.size
      have hCS : CS w w8 F7 F8 g w7.heap.size x7 c8 AD d.length d := ⟨IsNet.ext hN7 x8, fun k hk => by have := hFb7 k hk; omega, hN8, fun k hk => by have := hF8 k hk; omega, fun k hk => by
          cases e : F7 k with
          | false => rfl
          | true => have := hN7.ub k e; have := hF8 k hk; omega, htm7.ext ((Fr.of_ext x8 F7).masks (fun k hk => by
          cases e : F8 k with
          | false => simp
          | true => have := hF8 k e; omega)), xw7.trans x8⟩
      have hn8 : c8.n = d.length := by rw [NetV.n_p hN8, hp8, hp7]; simp
      have hr8 : c8.p.row = d.map letB := by rw [hp8, hp7]
      have ht8 : c8.taken = 0 := by have : c8.p.taken = 0 := (by rw [hp8, hp7]); exact this
      have hs7 : x7.sent = d.length := by have : x7.p.sent = d.length := (by rw [hp7]); exact this
      have ht7 : x7.taken = 0 := by have : x7.p.taken = 0 := (by rw [hp7]); exact this
      have hl7 : x7.lost = 0 := by have : x7.p.lost = 0 := (by rw [hp7]); exact this
      have HL8 := Lib.hid (net_Len F8 w7.heap.size c8 w8 hN8)
      rw [hn8] at HL8
      have hn0 := bne_f (show ((d.length : Nat) : Int) = d.length from rfl)
      have HCS := Lib.hid hCS
      have HR8 := Lib.hid hr8
      have HT8 := Lib.hid ht8
      have HS7 := Lib.hid hs7
      have HT7 := Lib.hid ht7
      have HL7 := Lib.hid hl7
      have HDF := Lib.hid hdfew
      have hgw : g < w7.heap.size := hN7.blk.lt
      clear HC7 hN7 hN8 hp8 hp7 hF8 x8 hCS hn8 hr8 ht8 hs7 ht7 hl7 htm7 hwm7 xw7 hFb7 hdfew
      generalize w7.heap.size = gc at *
      go_wp2_with fail
      refine HL8.out.mono ?_
      rintro e w9 ⟨rfl, hw9⟩
      subst w9
      clear HL8
      have hlno := hlo.len
      have hmxo : no ≤ 9223372036854775807 := by unfold maxLen at hcmo; omega
      go_wp2_with fail
      go_loopw [11] (fun v wr => ∃ i : Nat, v = .int .i64 i ∧ i ≤ no ∧ i ≤ 20 ∧ (∃ (x : NetV) (Fn : Nat → Bool), CS w wr Fn F8 g gc x c8 AD d.length d ∧ x.sent ≤ 8 + i ∧ x.taken ≤ i ∧ x.lost ≤ i)) (fun v _ => no - (intOf v).toNat)
      case atStart => exact ⟨0, rfl, by omega, by omega, ⟨x7, F7, HCS.out, by have := HS7.out; omega, by have := HT7.out; omega, by have := HL7.out; omega⟩⟩
      case round =>
        clear HCS HS7 HT7 HL7
        obtain ⟨wo, rfl⟩ : ∃ wo : World, wo = wr := ⟨_, rfl⟩
        obtain ⟨i, rfl, hi, hi20, ⟨x, Fn, hC, hbs, hbt, hbl⟩⟩ := hrel
        have HC := Lib.hid hC
        have hi0 : (0 : Int) ≤ i := by omega
        clear hC
        by_cases hgo : i < no ∧ i < 20
        · obtain ⟨hin, hi2⟩ := hgo
          have hi1 : (i : Int) < no := by omega
          have hi3 : (i : Int) < 20 := by omega
          obtain ⟨b, off, rfl, hbw, hcl⟩ := (hlo.ext HC.out.ex).at_ hin
          have hoM : (lo[i]).Ok w := hlo.ok lo[i] (List.getElem_mem _)
          generalize lo[i] = o at *
          have e0 := hcl 0 (by omega)
          have e1 := hcl 1 (by omega)
          have e2 := hcl 2 (by omega)
          have e3 := hcl 3 (by omega)
          have e4 := hcl 4 (by omega)
          simp only [show Thing.cells o = OpV.cells o from rfl, OpV.cells, List.getElem?_cons_zero, List.getElem?_cons_succ, Nat.add_zero] at e0 e1 e2 e3 e4
          have hB := Blk.new wo 59 [.int .u8 o.kind, .int .i64 o.a, .int .i64 o.b, .int .i64 o.c, .slice o.A o.n o.cp]
          have d0 := hB.cell 0
          have d1 := hB.cell 1
          have d2 := hB.cell 2
          have d3 := hB.cell 3
          simp only [List.getElem?_cons_zero, List.getElem?_cons_succ] at d0 d1 d2 d3
          have HC9 := Lib.hid (HC.out.ext ((Ext.refl wo).alloc (.cells #[.int .u8 o.kind, .int .i64 o.a, .int .i64 o.b, .int .i64 o.c, .slice o.A o.n o.cp] 59)))
          have hk := hoM.k
          have ha3 := and3 o.kind hk
          clear hcl hB hoM HC
          go_upto_region 22 with fail
          clear e0 e1 e2 e3 e4
          generalize wo.alloc (.cells #[.int .u8 o.kind, .int .i64 o.a, .int .i64 o.b, .int .i64 o.c, .slice o.A o.n o.cp] 59) = W9 at *
          have hq4 : o.kind % 4 = 0 ∨ o.kind % 4 = 1 ∨ o.kind % 4 = 2 ∨ o.kind % 4 = 3 := by omega
          have hx0 := HC9.out.nn.s0
          have hx1 := HC9.out.nn.t0
          have hx2 := HC9.out.nn.l0
          rcases hq4 with hq | hq | hq | hq
          · have hqv : o.kind % 4 = 0 := by omega
            rw [hqv] at ha3
            clear hqv
            go_wp2_with fail
            refine (net_Drop Fn g x o.a W9 HC9.out.nn (by omega)).mono ?_
            rintro e w10 ⟨rfl, hN10, hf10⟩
            have hC := Lib.hid (HC9.out.step hN10 (fun _ _ => rfl) hf10)
            have hbb : (x.drop o.a).sent = x.sent ∧ (x.drop o.a).taken = x.taken ∧ (x.drop o.a).lost ≤ x.lost + 1 := by unfold NetV.drop; split <;> simp [NetV.erase]; omega
            clear hN10 hf10 d0 d1 d2 d3 ha3
            go_wp2_with fail
            go_roundw
            case rel => exact ⟨i + 1, val_int (by omega), by omega, by omega, ⟨x.drop o.a, Fn, hC.out, by omega, by omega, by omega⟩⟩
            case measure => simp [intOf]; omega
          · have hqv : o.kind % 4 = 1 := by omega
            rw [hqv] at ha3
            clear hqv
            go_wp2_with fail
            refine (net_Take Fn g x o.a W9 HC9.out.nn (by omega)).mono ?_
            rintro e w10 ⟨lx, code, rfl, _, _, _, hN10, hf10⟩
            have hC := Lib.hid (HC9.out.step hN10 (fun _ _ => rfl) hf10)
            have hbb : (x.take o.a).sent = x.sent ∧ (x.take o.a).taken ≤ x.taken + 1 ∧ (x.take o.a).lost = x.lost := by unfold NetV.take; split <;> simp [NetV.erase]; omega
            clear hN10 hf10 d0 d1 d2 d3 ha3
            go_wp2_with fail
            go_roundw
            case rel => exact ⟨i + 1, val_int (by omega), by omega, by omega, ⟨x.take o.a, Fn, hC.out, by omega, by omega, by omega⟩⟩
            case measure => simp [intOf]; omega
          · have hqv : o.kind % 4 = 2 := by omega
            rw [hqv] at ha3
            clear hqv
            go_wp2_with fail
            refine (net_Turn Fn g x o.a o.b o.c W9 HC9.out.nn).mono ?_
            rintro e w10 ⟨rfl, hN10, hf10⟩
            have hC := Lib.hid (HC9.out.step hN10 (fun _ _ => rfl) hf10)
            have hbb : (x.turn o.a o.b o.c).sent = x.sent ∧ (x.turn o.a o.b o.c).taken = x.taken ∧ (x.turn o.a o.b o.c).lost = x.lost := by unfold NetV.turn; split <;> exact ⟨rfl, rfl, rfl⟩
            clear hN10 hf10 d0 d1 d2 d3 ha3
            go_wp2_with fail
            go_roundw
            case rel => exact ⟨i + 1, val_int (by omega), by omega, by omega, ⟨x.turn o.a o.b o.c, Fn, hC.out, by omega, by omega, by omega⟩⟩
            case measure => simp [intOf]; omega
          · have hqv : o.kind % 4 = 3 := by omega
            rw [hqv] at ha3
            clear hqv
            go_wp2_with fail
            refine (net_Twice Fn g x o.a W9 HC9.out.nn (by omega)).mono ?_
            rintro e w10 ⟨x10, F10, rfl, hN10, hp10, hF10, hf10⟩
            have hC := Lib.hid (HC9.out.step hN10 hF10 hf10)
            have hbb : x10.sent ≤ x.sent + 1 ∧ x10.taken = x.taken ∧ x10.lost = x.lost := by have q1 : x10.sent = (x.p.twice o.a).sent := congrArg NetP.sent hp10; have q2 : x10.taken = (x.p.twice o.a).taken := congrArg NetP.taken hp10; have q3 : x10.lost = (x.p.twice o.a).lost := congrArg NetP.lost hp10; rw [q1, q2, q3]; unfold NetP.twice; repeat (first | split | exact ⟨Int.le_of_lt (by show x.sent < x.sent + 1; omega), rfl, rfl⟩ | exact ⟨Int.le_refl _, rfl, rfl⟩)
            clear hN10 hf10 d0 d1 d2 d3 ha3
            go_wp2_with fail
            go_roundw
            case rel => exact ⟨i + 1, val_int (by omega), by omega, by omega, ⟨x10, F10, hC.out, by omega, by omega, by omega⟩⟩
            case measure => simp [intOf]; omega
        · have HCN := Lib.hid HC.out.cn
          have HTS := Lib.hid HC.out.ts
          have HEX := Lib.hid HC.out.ex
          have HFB : Hid (∀ k, F8 k = true → w.heap.size ≤ k) := Lib.hid HC.out.l8
          have HGO := Lib.hid hgo
          clear HC hgo hbs hbt hbl hi20
          obtain ⟨G, hG⟩ : ∃ G : Nat → Bool, G = fun k => Fn k || F8 k := ⟨_, rfl⟩
          rw [← hG] at HTS
          have HGF : Hid (∀ k, F8 k = true → G k = true) := Lib.hid (fun k hk => by rw [hG]; simp [hk])
          clear hG
          by_cases h1 : i < no
          · have g1 : (i : Int) < no := by omega
            have g2 : ¬ ((i : Int) < 20) := by have := HGO.out; omega
            clear h1
            go_wp2_with fail
            go_loopw [13] (fun v wr => ∃ q : Nat, v = .int .i64 q ∧ q ≤ d.length ∧ (∃ cx : NetV, Net wr F8 gc cx ∧ Hid (cx.p.row = (d.drop q).map letB) ∧ cx.taken ≤ q) ∧ Ts (mask G wr) AD d.length d ∧ Ext w wr) (fun v _ => d.length - (intOf v).toNat)
            case atStart => exact ⟨0, rfl, by omega, ⟨c8, HCN.out, Lib.hid (by rw [HR8.out, List.drop_zero]), by have := HT8.out; omega⟩, HTS.out, HEX.out⟩
            case round =>
              clear HCN HTS HEX
              obtain ⟨wp, rfl⟩ : ∃ wp : World, wp = wr := ⟨_, rfl⟩
              obtain ⟨q, rfl, hq, ⟨cx, hcx, HCR, hct⟩, hts, hex⟩ := hrel
              have hcn : cx.n = d.length - q := by rw [NetV.n_p hcx, HCR.out, List.length_map, List.length_drop]
              by_cases hqm : q < d.length
              · have hq0 : (0 : Int) ≤ q := by omega
                have hq1 : (q : Int) < d.length := by omega
                have hth : thereB cx.n 0 = true := by rw [hcn]; unfold thereB; simp; omega
                have hat : cx.at 0 = letB d[q] := by
                  rw [← NetV.at_p hcx]
                  unfold NetP.at
                  rw [← NetV.n_p hcx, if_pos hth, HCR.out]
                  simp [List.getElem?_drop, List.getElem?_eq_getElem hqm]
                obtain ⟨hym6, hymB⟩ := HDF.out d[q] (List.getElem_mem _)
                have HTK := Lib.hid (net_Take F8 gc cx 0 wp hcx (by omega))
                have HTP := Lib.hid (take_p hcx hth)
                have HDR : Hid ((d.drop (q + 1)).map letB = ((d.drop q).map letB).eraseIdx 0) := Lib.hid (by
                  rw [List.drop_eq_getElem_cons hqm]; rfl)
                have HGE := Lib.hid (fun (V : World) (h : Ext (mask G wp) (mask G V)) => (hts.ext h).unmask)
                have HTS := Lib.hid hts
                have HTH := Lib.hid hth
                have HAT := Lib.hid hat
                have HYB := Lib.hid hymB
                have HYO : Hid (∀ (V : World), Ext (mask G wp) (mask G V) → (d[q]).Ok V) := Lib.hid (fun V h => (HGE.out V h).ok d[q] (List.getElem_mem _))
                have HCL : Hid (∀ (V : World), Ext (mask G wp) (mask G V) → ∃ b off, AD = some ⟨b, off, none⟩ ∧ b < V.heap.size ∧ ∀ k, k < 10 → V.cell? ⟨b, off + q * 10 + k, none⟩ = (d[q]).cells[k]?) := Lib.hid (fun V h => (HGE.out V h).at_ hqm)
                generalize d[q] = y at *
                clear hcx hts hat hth hcn hymB
                go_wp2_with fail
                refine HTK.out.mono ?_
                rintro e w10 ⟨lx, code, rfl, hox, hxn, hres, hN10, hf10⟩
                have hm10 : Ext (mask G wp) (mask G w10) := (hf10.mono (G := G) (fun k _ hk => HGF.out k hk)).masks (fun _ _ => rfl)
                have hex10 : Ext w w10 := hf10.below hex hex.size HFB.out
                obtain ⟨rfl, heq⟩ := take_back hres HTH.out HAT.out (HYO.out wp (Ext.refl _)) HYB.out
                have heq2 := letEq_symm heq
                unfold LV.val
                go_upto_region 34 with fail
                have hB := Blk.new w10 26 [.int .i64 lx.kind, .int .i64 lx.src, .int .i64 lx.dst, .int .i64 lx.term, .int .i64 lx.a, .int .i64 lx.b, .int .i64 lx.c, .int .i64 lx.bin, .bool lx.ok, .slice lx.A lx.n lx.cp]
                have x11 : Ext w10 (w10.alloc (.cells #[.int .i64 lx.kind, .int .i64 lx.src, .int .i64 lx.dst, .int .i64 lx.term, .int .i64 lx.a, .int .i64 lx.b, .int .i64 lx.c, .int .i64 lx.bin, .bool lx.ok, .slice lx.A lx.n lx.cp] 26)) := (Ext.refl w10).alloc _
                have hm11 := hm10.trans x11.masks
                have hN11 := IsNet.ext hN10 x11
                have hox11 := (hox.ok).ext x11
                have hex11 := hex10.trans x11
                generalize w10.heap.size = gx at hB ⊢
                generalize w10.alloc (.cells #[.int .i64 lx.kind, .int .i64 lx.src, .int .i64 lx.dst, .int .i64 lx.term, .int .i64 lx.a, .int .i64 lx.b, .int .i64 lx.c, .int .i64 lx.bin, .bool lx.ok, .slice lx.A lx.n lx.cp] 26) = W11 at *
                have HSM := Lib.hid (fun (V : World) (h : Ext W11 V) => ref16_SameB lx y true heq2 V (hox11.ext h) ((HYO.out W11 hm11).ext h) (by omega) (by omega))
                unfold LV.val at HSM
                obtain ⟨b, off, hAD, _, hcl⟩ := HCL.out W11 hm11
                have HS := Lib.hid (fun (V : World) (h : Ext W11 V) => (show (V.cell? ⟨gx, 0, none⟩ = some (.int .i64 lx.kind) ∧ V.cell? ⟨gx, 1, none⟩ = some (.int .i64 lx.src) ∧ V.cell? ⟨gx, 2, none⟩ = some (.int .i64 lx.dst) ∧ V.cell? ⟨gx, 3, none⟩ = some (.int .i64 lx.term) ∧ V.cell? ⟨gx, 4, none⟩ = some (.int .i64 lx.a) ∧ V.cell? ⟨gx, 5, none⟩ = some (.int .i64 lx.b) ∧ V.cell? ⟨gx, 6, none⟩ = some (.int .i64 lx.c) ∧ V.cell? ⟨gx, 7, none⟩ = some (.int .i64 lx.bin) ∧ V.cell? ⟨gx, 8, none⟩ = some (.bool lx.ok) ∧ V.cell? ⟨gx, 9, none⟩ = some (.slice lx.A lx.n lx.cp)) ∧ (V.cell? ⟨b, off + q * 10, none⟩ = some (.int .i64 y.kind) ∧ V.cell? ⟨b, off + q * 10 + 1, none⟩ = some (.int .i64 y.src) ∧ V.cell? ⟨b, off + q * 10 + 2, none⟩ = some (.int .i64 y.dst) ∧ V.cell? ⟨b, off + q * 10 + 3, none⟩ = some (.int .i64 y.term) ∧ V.cell? ⟨b, off + q * 10 + 4, none⟩ = some (.int .i64 y.a) ∧ V.cell? ⟨b, off + q * 10 + 5, none⟩ = some (.int .i64 y.b) ∧ V.cell? ⟨b, off + q * 10 + 6, none⟩ = some (.int .i64 y.c) ∧ V.cell? ⟨b, off + q * 10 + 7, none⟩ = some (.int .i64 y.bin) ∧ V.cell? ⟨b, off + q * 10 + 8, none⟩ = some (.bool y.ok) ∧ V.cell? ⟨b, off + q * 10 + 9, none⟩ = some (.slice y.A y.n y.cp)) from
                  ⟨⟨(hB.ext h).cell 0, (hB.ext h).cell 1, (hB.ext h).cell 2, (hB.ext h).cell 3, (hB.ext h).cell 4, (hB.ext h).cell 5, (hB.ext h).cell 6, (hB.ext h).cell 7, (hB.ext h).cell 8, (hB.ext h).cell 9⟩,
                   ⟨h.cell (hcl 0 (by omega)), h.cell (hcl 1 (by omega)), h.cell (hcl 2 (by omega)), h.cell (hcl 3 (by omega)), h.cell (hcl 4 (by omega)), h.cell (hcl 5 (by omega)), h.cell (hcl 6 (by omega)), h.cell (hcl 7 (by omega)), h.cell (hcl 8 (by omega)), h.cell (hcl 9 (by omega))⟩⟩))
                have HN11 := Lib.hid hN11
                have HEX11 := Lib.hid hex11
                have HM11 := Lib.hid hm11
                obtain ⟨htp1, htp2⟩ := HTP.out
                have HTP1 := Lib.hid htp1
                have HTP2 := Lib.hid htp2
                clear HTK hox hres hN10 hf10 hm10 hex10 heq heq2 hB x11 hm11 hN11 hox11 hex11 hcl HCL HYO HGE HAT HTP htp1 htp2 hex
                subst hAD
                obtain ⟨⟨d0, d1, d2, d3, d4, d5, d6, d7, d8, d9⟩, e0, e1, e2, e3, e4, e5, e6, e7, e8, e9⟩ := HS.out _ (Ext.refl W11)
                have y0 : Ext W11 W11.drew := (Ext.refl W11).drew
                go_region_held3 (fun V => (V.cell? ⟨gx, 0, none⟩ = some (.int .i64 lx.kind) ∧ V.cell? ⟨gx, 1, none⟩ = some (.int .i64 lx.src) ∧ V.cell? ⟨gx, 2, none⟩ = some (.int .i64 lx.dst) ∧ V.cell? ⟨gx, 3, none⟩ = some (.int .i64 lx.term) ∧ V.cell? ⟨gx, 4, none⟩ = some (.int .i64 lx.a) ∧ V.cell? ⟨gx, 5, none⟩ = some (.int .i64 lx.b) ∧ V.cell? ⟨gx, 6, none⟩ = some (.int .i64 lx.c) ∧ V.cell? ⟨gx, 7, none⟩ = some (.int .i64 lx.bin) ∧ V.cell? ⟨gx, 8, none⟩ = some (.bool lx.ok) ∧ V.cell? ⟨gx, 9, none⟩ = some (.slice lx.A lx.n lx.cp)) ∧ (V.cell? ⟨b, off + q * 10, none⟩ = some (.int .i64 y.kind) ∧ V.cell? ⟨b, off + q * 10 + 1, none⟩ = some (.int .i64 y.src) ∧ V.cell? ⟨b, off + q * 10 + 2, none⟩ = some (.int .i64 y.dst) ∧ V.cell? ⟨b, off + q * 10 + 3, none⟩ = some (.int .i64 y.term) ∧ V.cell? ⟨b, off + q * 10 + 4, none⟩ = some (.int .i64 y.a) ∧ V.cell? ⟨b, off + q * 10 + 5, none⟩ = some (.int .i64 y.b) ∧ V.cell? ⟨b, off + q * 10 + 6, none⟩ = some (.int .i64 y.c) ∧ V.cell? ⟨b, off + q * 10 + 7, none⟩ = some (.int .i64 y.bin) ∧ V.cell? ⟨b, off + q * 10 + 8, none⟩ = some (.bool y.ok) ∧ V.cell? ⟨b, off + q * 10 + 9, none⟩ = some (.slice y.A y.n y.cp)))
                  (first | (exact HS.out _ y1) | (exact HS.out _ y0) | (exact HS.out _ (Ext.refl W11)) | go_keep)
                  (first
                    | (go_at_call 19; refine (HSM.out _ y0).mono ?_; rintro e w12 ⟨rfl, y1'⟩; have y1 := y0.trans y1'; clear y1'))
                have hexf := HEX11.out.trans y1
                have hnf := HN11.out
                have HNF := Lib.hid (IsNet.ext hnf y1)
                have HTF := Lib.hid (HTS.out.ext (HM11.out.trans y1.masks))
                clear d0 d1 d2 d3 d4 d5 d6 d7 d8 d9 e0 e1 e2 e3 e4 e5 e6 e7 e8 e9 HS HSM y0 hnf y1
                go_wp2_with fail
                go_roundw
                case rel => exact ⟨q + 1, val_int (by omega), by omega, ⟨cx.take 0, HNF.out, Lib.hid (by rw [HTP1.out, HCR.out, HDR.out]; rfl), by have := HTP2.out; omega⟩, HTF.out, hexf⟩
                case measure => simp [intOf]; omega
              · have hq1 : ¬ ((q : Int) < d.length) := by omega
                have hn0' : cx.n = 0 := by omega
                have HL := Lib.hid (net_Len F8 gc cx wp hcx)
                rw [hn0'] at HL
                clear hcx hts hcn hn0'
                go_wp2_with fail
                refine HL.out.mono ?_
                rintro e w10 ⟨rfl, hw10⟩
                subst w10
                go_wp2_with fail
                go_ret
                exact ⟨rfl, hex⟩
          · have g1 : ¬ ((i : Int) < no) := by omega
            clear h1
            go_wp2_with fail
            go_loopw [13] (fun v wr => ∃ q : Nat, v = .int .i64 q ∧ q ≤ d.length ∧ (∃ cx : NetV, Net wr F8 gc cx ∧ Hid (cx.p.row = (d.drop q).map letB) ∧ cx.taken ≤ q) ∧ Ts (mask G wr) AD d.length d ∧ Ext w wr) (fun v _ => d.length - (intOf v).toNat)
            case atStart => exact ⟨0, rfl, by omega, ⟨c8, HCN.out, Lib.hid (by rw [HR8.out, List.drop_zero]), by have := HT8.out; omega⟩, HTS.out, HEX.out⟩
            case round =>
              clear HCN HTS HEX
              obtain ⟨wp, rfl⟩ : ∃ wp : World, wp = wr := ⟨_, rfl⟩
              obtain ⟨q, rfl, hq, ⟨cx, hcx, HCR, hct⟩, hts, hex⟩ := hrel
              have hcn : cx.n = d.length - q := by rw [NetV.n_p hcx, HCR.out, List.length_map, List.length_drop]
              by_cases hqm : q < d.length
              · have hq0 : (0 : Int) ≤ q := by omega
                have hq1 : (q : Int) < d.length := by omega
                have hth : thereB cx.n 0 = true := by rw [hcn]; unfold thereB; simp; omega
                have hat : cx.at 0 = letB d[q] := by
                  rw [← NetV.at_p hcx]
                  unfold NetP.at
                  rw [← NetV.n_p hcx, if_pos hth, HCR.out]
                  simp [List.getElem?_drop, List.getElem?_eq_getElem hqm]
                obtain ⟨hym6, hymB⟩ := HDF.out d[q] (List.getElem_mem _)
                have HTK := Lib.hid (net_Take F8 gc cx 0 wp hcx (by omega))
                have HTP := Lib.hid (take_p hcx hth)
                have HDR : Hid ((d.drop (q + 1)).map letB = ((d.drop q).map letB).eraseIdx 0) := Lib.hid (by
                  rw [List.drop_eq_getElem_cons hqm]; rfl)
                have HGE := Lib.hid (fun (V : World) (h : Ext (mask G wp) (mask G V)) => (hts.ext h).unmask)
                have HTS := Lib.hid hts
                have HTH := Lib.hid hth
                have HAT := Lib.hid hat
                have HYB := Lib.hid hymB
                have HYO : Hid (∀ (V : World), Ext (mask G wp) (mask G V) → (d[q]).Ok V) := Lib.hid (fun V h => (HGE.out V h).ok d[q] (List.getElem_mem _))
                have HCL : Hid (∀ (V : World), Ext (mask G wp) (mask G V) → ∃ b off, AD = some ⟨b, off, none⟩ ∧ b < V.heap.size ∧ ∀ k, k < 10 → V.cell? ⟨b, off + q * 10 + k, none⟩ = (d[q]).cells[k]?) := Lib.hid (fun V h => (HGE.out V h).at_ hqm)
                generalize d[q] = y at *
                clear hcx hts hat hth hcn hymB
                go_wp2_with fail
                refine HTK.out.mono ?_
                rintro e w10 ⟨lx, code, rfl, hox, hxn, hres, hN10, hf10⟩
                have hm10 : Ext (mask G wp) (mask G w10) := (hf10.mono (G := G) (fun k _ hk => HGF.out k hk)).masks (fun _ _ => rfl)
                have hex10 : Ext w w10 := hf10.below hex hex.size HFB.out
                obtain ⟨rfl, heq⟩ := take_back hres HTH.out HAT.out (HYO.out wp (Ext.refl _)) HYB.out
                have heq2 := letEq_symm heq
                unfold LV.val
                go_upto_region 34 with fail
                have hB := Blk.new w10 26 [.int .i64 lx.kind, .int .i64 lx.src, .int .i64 lx.dst, .int .i64 lx.term, .int .i64 lx.a, .int .i64 lx.b, .int .i64 lx.c, .int .i64 lx.bin, .bool lx.ok, .slice lx.A lx.n lx.cp]
                have x11 : Ext w10 (w10.alloc (.cells #[.int .i64 lx.kind, .int .i64 lx.src, .int .i64 lx.dst, .int .i64 lx.term, .int .i64 lx.a, .int .i64 lx.b, .int .i64 lx.c, .int .i64 lx.bin, .bool lx.ok, .slice lx.A lx.n lx.cp] 26)) := (Ext.refl w10).alloc _
                have hm11 := hm10.trans x11.masks
                have hN11 := IsNet.ext hN10 x11
                have hox11 := (hox.ok).ext x11
                have hex11 := hex10.trans x11
                generalize w10.heap.size = gx at hB ⊢
                generalize w10.alloc (.cells #[.int .i64 lx.kind, .int .i64 lx.src, .int .i64 lx.dst, .int .i64 lx.term, .int .i64 lx.a, .int .i64 lx.b, .int .i64 lx.c, .int .i64 lx.bin, .bool lx.ok, .slice lx.A lx.n lx.cp] 26) = W11 at *
                have HSM := Lib.hid (fun (V : World) (h : Ext W11 V) => ref16_SameB lx y true heq2 V (hox11.ext h) ((HYO.out W11 hm11).ext h) (by omega) (by omega))
                unfold LV.val at HSM
                obtain ⟨b, off, hAD, _, hcl⟩ := HCL.out W11 hm11
                have HS := Lib.hid (fun (V : World) (h : Ext W11 V) => (show (V.cell? ⟨gx, 0, none⟩ = some (.int .i64 lx.kind) ∧ V.cell? ⟨gx, 1, none⟩ = some (.int .i64 lx.src) ∧ V.cell? ⟨gx, 2, none⟩ = some (.int .i64 lx.dst) ∧ V.cell? ⟨gx, 3, none⟩ = some (.int .i64 lx.term) ∧ V.cell? ⟨gx, 4, none⟩ = some (.int .i64 lx.a) ∧ V.cell? ⟨gx, 5, none⟩ = some (.int .i64 lx.b) ∧ V.cell? ⟨gx, 6, none⟩ = some (.int .i64 lx.c) ∧ V.cell? ⟨gx, 7, none⟩ = some (.int .i64 lx.bin) ∧ V.cell? ⟨gx, 8, none⟩ = some (.bool lx.ok) ∧ V.cell? ⟨gx, 9, none⟩ = some (.slice lx.A lx.n lx.cp)) ∧ (V.cell? ⟨b, off + q * 10, none⟩ = some (.int .i64 y.kind) ∧ V.cell? ⟨b, off + q * 10 + 1, none⟩ = some (.int .i64 y.src) ∧ V.cell? ⟨b, off + q * 10 + 2, none⟩ = some (.int .i64 y.dst) ∧ V.cell? ⟨b, off + q * 10 + 3, none⟩ = some (.int .i64 y.term) ∧ V.cell? ⟨b, off + q * 10 + 4, none⟩ = some (.int .i64 y.a) ∧ V.cell? ⟨b, off + q * 10 + 5, none⟩ = some (.int .i64 y.b) ∧ V.cell? ⟨b, off + q * 10 + 6, none⟩ = some (.int .i64 y.c) ∧ V.cell? ⟨b, off + q * 10 + 7, none⟩ = some (.int .i64 y.bin) ∧ V.cell? ⟨b, off + q * 10 + 8, none⟩ = some (.bool y.ok) ∧ V.cell? ⟨b, off + q * 10 + 9, none⟩ = some (.slice y.A y.n y.cp)) from
                  ⟨⟨(hB.ext h).cell 0, (hB.ext h).cell 1, (hB.ext h).cell 2, (hB.ext h).cell 3, (hB.ext h).cell 4, (hB.ext h).cell 5, (hB.ext h).cell 6, (hB.ext h).cell 7, (hB.ext h).cell 8, (hB.ext h).cell 9⟩,
                   ⟨h.cell (hcl 0 (by omega)), h.cell (hcl 1 (by omega)), h.cell (hcl 2 (by omega)), h.cell (hcl 3 (by omega)), h.cell (hcl 4 (by omega)), h.cell (hcl 5 (by omega)), h.cell (hcl 6 (by omega)), h.cell (hcl 7 (by omega)), h.cell (hcl 8 (by omega)), h.cell (hcl 9 (by omega))⟩⟩))
                have HN11 := Lib.hid hN11
                have HEX11 := Lib.hid hex11
                have HM11 := Lib.hid hm11
                obtain ⟨htp1, htp2⟩ := HTP.out
                have HTP1 := Lib.hid htp1
                have HTP2 := Lib.hid htp2
                clear HTK hox hres hN10 hf10 hm10 hex10 heq heq2 hB x11 hm11 hN11 hox11 hex11 hcl HCL HYO HGE HAT HTP htp1 htp2 hex
                subst hAD
                obtain ⟨⟨d0, d1, d2, d3, d4, d5, d6, d7, d8, d9⟩, e0, e1, e2, e3, e4, e5, e6, e7, e8, e9⟩ := HS.out _ (Ext.refl W11)
                have y0 : Ext W11 W11.drew := (Ext.refl W11).drew
                go_region_held3 (fun V => (V.cell? ⟨gx, 0, none⟩ = some (.int .i64 lx.kind) ∧ V.cell? ⟨gx, 1, none⟩ = some (.int .i64 lx.src) ∧ V.cell? ⟨gx, 2, none⟩ = some (.int .i64 lx.dst) ∧ V.cell? ⟨gx, 3, none⟩ = some (.int .i64 lx.term) ∧ V.cell? ⟨gx, 4, none⟩ = some (.int .i64 lx.a) ∧ V.cell? ⟨gx, 5, none⟩ = some (.int .i64 lx.b) ∧ V.cell? ⟨gx, 6, none⟩ = some (.int .i64 lx.c) ∧ V.cell? ⟨gx, 7, none⟩ = some (.int .i64 lx.bin) ∧ V.cell? ⟨gx, 8, none⟩ = some (.bool lx.ok) ∧ V.cell? ⟨gx, 9, none⟩ = some (.slice lx.A lx.n lx.cp)) ∧ (V.cell? ⟨b, off + q * 10, none⟩ = some (.int .i64 y.kind) ∧ V.cell? ⟨b, off + q * 10 + 1, none⟩ = some (.int .i64 y.src) ∧ V.cell? ⟨b, off + q * 10 + 2, none⟩ = some (.int .i64 y.dst) ∧ V.cell? ⟨b, off + q * 10 + 3, none⟩ = some (.int .i64 y.term) ∧ V.cell? ⟨b, off + q * 10 + 4, none⟩ = some (.int .i64 y.a) ∧ V.cell? ⟨b, off + q * 10 + 5, none⟩ = some (.int .i64 y.b) ∧ V.cell? ⟨b, off + q * 10 + 6, none⟩ = some (.int .i64 y.c) ∧ V.cell? ⟨b, off + q * 10 + 7, none⟩ = some (.int .i64 y.bin) ∧ V.cell? ⟨b, off + q * 10 + 8, none⟩ = some (.bool y.ok) ∧ V.cell? ⟨b, off + q * 10 + 9, none⟩ = some (.slice y.A y.n y.cp)))
                  (first | (exact HS.out _ y1) | (exact HS.out _ y0) | (exact HS.out _ (Ext.refl W11)) | go_keep)
                  (first
                    | (go_at_call 19; refine (HSM.out _ y0).mono ?_; rintro e w12 ⟨rfl, y1'⟩; have y1 := y0.trans y1'; clear y1'))
                have hexf := HEX11.out.trans y1
                have hnf := HN11.out
                have HNF := Lib.hid (IsNet.ext hnf y1)
                have HTF := Lib.hid (HTS.out.ext (HM11.out.trans y1.masks))
                clear d0 d1 d2 d3 d4 d5 d6 d7 d8 d9 e0 e1 e2 e3 e4 e5 e6 e7 e8 e9 HS HSM y0 hnf y1
                go_wp2_with fail
                go_roundw
                case rel => exact ⟨q + 1, val_int (by omega), by omega, ⟨cx.take 0, HNF.out, Lib.hid (by rw [HTP1.out, HCR.out, HDR.out]; rfl), by have := HTP2.out; omega⟩, HTF.out, hexf⟩
                case measure => simp [intOf]; omega
              · have hq1 : ¬ ((q : Int) < d.length) := by omega
                have hn0' : cx.n = 0 := by omega
                have HL := Lib.hid (net_Len F8 gc cx wp hcx)
                rw [hn0'] at HL
                clear hcx hts hcn hn0'
                go_wp2_with fail
                refine HL.out.mono ?_
                rintro e w10 ⟨rfl, hw10⟩
                subst w10
                go_wp2_with fail
                go_ret
                exact ⟨rfl, hex⟩
end Go.Proofs.Ytcoaofaofmbfbaa
