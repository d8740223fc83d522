/- Words and walks that the last text of this claim stands on: RnI. No condition. -/
import Derived.Test.YtcoaofaofmbfbaaB37
import Derived.Test.YtcoaofaofmbfbaaB39
import Derived.Test.YtcoaofaofmbfbaaB32
import Derived.Test.YtcoaofaofmbfbaaB38
/- The walk of the law NetPlays. (Printed by wip/tools/rnplays.py.) -/
namespace Go.Proofs.Ytcoaofaofmbfbaa
open Go.RowKit

theorem OwnX.frok {F : Nat → Bool} {w w' : World} {B : Nat} {x : LV} (h : OwnX w B x) (hF : ∀ k, F k = true → k < B) (hf : Fr F w w') : x.Ok w' := by
  have hk : ∀ {e : TypeId} {size n : Nat} {v : Value} {xs : List Value}, w.ownsRow B e size v n xs → ∀ k, v.ownBlock = some k → F k = false := fun ho k hk => by
    have := (ho.lt k hk).1
    cases e : F k with
    | false => rfl
    | true => have := hF k e; omega
  have hm : OwnX (mask F w) B x := ⟨own_mask h.row (hk h.row), fun y hy => ⟨own_mask (h.own y hy).own (hk (h.own y hy).own), (h.own y hy).t⟩, h.u0, h.u1, h.u2, h.u3, h.u4, h.u5, h.u6, h.u7⟩
  exact (hm.ok.ext (hf.masks (fun _ _ => rfl))).unmask
theorem RNet.zero {w : World} {G : Nat → Bool} {g : Nat} (h : Blk w g 68 [.slice none 0 0, .int .i64 0, .int .i64 0, .int .i64 0]) (hG : G g = true) : RNet w G g netZ :=
  ⟨h, hG, ⟨rfl, fun hn => absurd hn (by simp [netZ])⟩, by simp [netZ], by simp [netZ, maxLen], by simp [netZ], by simp [netZ], by simp [netZ], by simp [netZ], by simp [netZ]⟩
set_option maxRecDepth 100000 in
set_option maxHeartbeats 6400000 in
theorem law_NetPlays (A : Option Addr) (n c : Nat) (l : List OpV) (w : World) (hl : Ts w A n l) (hnc : n ≤ c) (hcm : c ≤ maxLen) :
    Calls Try.prog 11 #[.slice A n c] w fun e w' => e = .returned (.bool true) ∧ Ext w w' := by
  have hlen := hl.len
  have hmx : n ≤ 9223372036854775807 := by unfold maxLen at hcm; omega
  have HL0 := Lib.hid hl
  clear hl
  go_enter Try.func11, Try.ntmps11
  go_wp2_with fail
  refine (law21_shown w).mono ?_
  rintro e w1 ⟨rfl, x1⟩
  go_wp2_with fail
  refine (net_New w1).mono ?_
  rintro e w2 ⟨rfl, hN, x2⟩
  have xw2 := x1.trans x2
  have hg := x1.size
  have hg2 : w1.heap.size < w2.heap.size := hN.blk.lt
  generalize w1.heap.size = g0 at *
  have hB := Blk.new w2 68 [.slice none 0 0, .int .i64 0, .int .i64 0, .int .i64 0]
  have x3 : Ext w2 (w2.alloc (.cells #[.slice none 0 0, .int .i64 0, .int .i64 0, .int .i64 0] 68)) := (Ext.refl w2).alloc _
  have HPN : Hid (PN w (w2.alloc (.cells #[.slice none 0 0, .int .i64 0, .int .i64 0, .int .i64 0] 68)) (fun k => k == g0) g0 w2.heap.size netZ netZ) := Lib.hid ⟨IsNet.ext hN x3, RNet.zero hB (by unfold GF; simp), fun k hk => by rw [eq_of_beq hk]; exact hg, xw2.size, by simp; omega, xw2.trans x3⟩
  have hgy : w.heap.size ≤ w2.heap.size := xw2.size
  clear hN x1 x2 xw2 hB x3
  go_wp2_with fail
  generalize hgy0 : w2.heap.size = gy at hg2 HPN hgy ⊢
  clear hgy0
  go_loopw [4, 6] (fun v i wr => ∃ j : Nat, i = .int .i64 j ∧ j ≤ n ∧ j ≤ 40 ∧ ∃ (g : Nat) (F : Nat → Bool) (x y : NetV), v = .pointer (some ⟨g, 0, none⟩) ∧ PN w wr F g gy x y ∧ Hid (x.p = y.p) ∧ Bd x.p (400 * j)) (fun _ i _ => n - (intOf i).toNat)
  case atStart => exact ⟨0, rfl, by omega, by omega, g0, _, netZ, netZ, rfl, HPN.out, Lib.hid rfl, by unfold Bd; simp [netZ, NetV.p]⟩
  case round =>
    as_aux_lemma =>
      clear HPN
      obtain ⟨j, rfl, hj, hj40, g, F, x, y, rfl, hPN, HP, hbd⟩ := hrel
      obtain ⟨wx, rfl⟩ : ∃ wx, wx = wr := ⟨_, rfl⟩
      by_cases hin : j < n ∧ j < 40
      · as_aux_lemma =>
          obtain ⟨hjn, hj4⟩ := hin
          have hj0 : (0 : Int) ≤ j := by omega
          have hj1 : (j : Int) < n := by omega
          have hj2 : (j : Int) < 40 := by omega
          obtain ⟨b, off, hA, hbw, hcl⟩ := (HL0.out.ext hPN.ex).at_ hjn
          have hok : (l[j]).Ok w := HL0.out.ok l[j] (List.getElem_mem _)
          generalize l[j] = o at *
          have e0 := hcl 0 (by omega)
          have e1 := hcl 1 (by omega)
          have e2 := hcl 2 (by omega)
          have e3 := hcl 3 (by omega)
          have e4 := hcl 4 (by omega)
          simp only [show Thing.cells o = OpV.cells o from rfl, OpV.cells, List.getElem?_cons_zero, List.getElem?_cons_succ, Nat.add_zero] at e0 e1 e2 e3 e4
          have HPN := Lib.hid hPN
          have HO := Lib.hid hok
          subst hA
          clear hcl hPN hok
          go_upto_region 10 with fail
          have hB := Blk.new wx 59 [.int .u8 o.kind, .int .i64 o.a, .int .i64 o.b, .int .i64 o.c, .slice o.A o.n o.cp]
          have xa : Ext wx (wx.alloc (.cells #[.int .u8 o.kind, .int .i64 o.a, .int .i64 o.b, .int .i64 o.c, .slice o.A o.n o.cp] 59)) := (Ext.refl wx).alloc _
          have hPa := HPN.out.ext xa
          have HLS := Lib.hid (law21_letters o.A o.n o.cp o.l w _ HO.out.ls hPa.ex HO.out.le HO.out.cap)
          have hgo1 : g ≠ wx.heap.size := by have := HPN.out.nn.blk.lt; omega
          have hgo2 : gy ≠ wx.heap.size := by have := HPN.out.rr.ub; omega
          have hgoF : F wx.heap.size = false := by
            cases e : F wx.heap.size with
            | false => rfl
            | true => have := HPN.out.nn.ub _ e; omega
          generalize hgo : wx.heap.size = go at hB hgo1 hgo2 hgoF ⊢
          generalize wx.alloc (.cells #[.int .u8 o.kind, .int .i64 o.a, .int .i64 o.b, .int .i64 o.c, .slice o.A o.n o.cp] 59) = Wa at *
          have g4 := hB.cell 4
          simp only [List.getElem?_cons_zero, List.getElem?_cons_succ] at g4
          have HPA := Lib.hid hPa
          clear hPa e0 e1 e2 e3 e4
          go_wp2_with fail
          refine HLS.out.mono ?_
          rintro e w4 ⟨v4, ls, rfl, hown4, hl8, hD, x4⟩
          obtain ⟨A8, c8, rfl, _⟩ := own_form hown4
          have hc8 := own_bounds hown4
          have hT4 := Ts.own_ HPA.out hown4 hD x4
          have hP4 := HPA.out.ext x4
          have hdn : ∀ z ∈ ls, z.n ≤ 6 := fun z hz => (hD z hz).few
          replace hB := hB.ext x4
          have hgow : go < w4.heap.size := hB.lt
          have HDN := Lib.hid hdn
          have HT4 := Lib.hid hT4
          have HP4 := Lib.hid hP4
          have HB := Lib.hid hB
          have HBD := Lib.hid hbd
          obtain ⟨m, hm⟩ : ∃ m, m = ls.length := ⟨_, rfl⟩
          rw [← hm] at hl8 HT4 hc8 ⊢
          have HM := Lib.hid hm
          clear HLS hown4 hD x4 hT4 hP4 hdn hB hbd HPA HPN g4 hm
          go_upto_region 11 with fail
          go_cut [51] (fun v wx => v = .bool (decide ((j : Int) % 7 = 6)) ∧ w4 = wx)
          case first =>
            go_wp2_with fail
            go_meet
            exact ⟨rfl, rfl⟩
          obtain ⟨rfl, rfl⟩ := hcut
          apply_assumption
          go_cut [4] (fun v wx => ∃ (g' : Nat) (F' : Nat → Bool) (x' : NetV), v = .pointer (some ⟨g', 0, none⟩) ∧ PN w wx F' g' gy x' y ∧ Ts (mask (GF F' gy) wx) A8 m ls ∧ Hid (x'.p = x.p) ∧ Blk wx go 59 [.int .u8 o.kind, .int .i64 o.a, .int .i64 o.b, .int .i64 o.c, .slice o.A o.n o.cp] ∧ F' go = false)
          case first =>
            as_aux_lemma =>
              by_cases h7 : (j : Int) % 7 = 6
              · as_aux_lemma =>
                  have d8 := dec_t h7
                  clear h7
                  rw [d8]
                  have HC := Lib.hid (net_Clone F g x w4 HP4.out.nn)
                  go_wp2_with fail
                  refine HC.out.mono ?_
                  rintro e w8 ⟨c8, F8, rfl, hc, hcp, hnew, x8⟩
                  have hN8 := IsNet.ext HP4.out.nn x8
                  have hbdo := HBD.out
                  have HD := Lib.hid (net_Drop F g x 0 w8 hN8 (by have := hbdo.2.2; change x.lost ≤ _ at this; omega))
                  have HCN := Lib.hid hc
                  have HCP := Lib.hid hcp
                  have HNW := Lib.hid hnew
                  have HX8 := Lib.hid x8
                  clear HC hc hcp hnew x8 hN8 hbdo
                  go_wp2_with fail
                  refine HD.out.mono ?_
                  rintro e w9 ⟨rfl, hN9, hf9⟩
                  have HTU := Lib.hid (net_Turn F g (x.drop 0) 0 0 1 w9 hN9)
                  have HF9 := Lib.hid hf9
                  clear HD hN9 hf9
                  go_wp2_with fail
                  refine HTU.out.mono ?_
                  rintro e w10 ⟨rfl, _, hf10⟩
                  have HF10 := Lib.hid (HF9.out.trans hf10)
                  have hnew := HNW.out
                  have HP10 := Lib.hid (HP4.out.clone HCN.out hnew HX8.out HF10.out)
                  have HT10 := Lib.hid (Ts.clone HP4.out HT4.out hnew HX8.out HF10.out)
                  have HB10 := Lib.hid ((HB.out.ext HX8.out).fr HF10.out hgoF)
                  have hF8 : F8 go = false := by
                    cases e : F8 go with
                    | false => rfl
                    | true => have := hnew go e; omega
                  clear HTU hf10 HF9 hnew
                  go_wp2_with fail
                  go_meet
                  exact ⟨_, F8, c8, rfl, HP10.out, HT10.out, HCP, HB10.out, hF8⟩
              · have d8 := dec_f h7
                clear h7
                rw [d8]
                go_wp2_with fail
                go_meet
                exact ⟨g, F, x, rfl, HP4.out, HT4.out, Lib.hid rfl, HB.out, hgoF⟩
          case rest =>
            as_aux_lemma =>
              obtain ⟨g', F', x', rfl, hP, hT, HXP, hB, hgoF'⟩ := hcut
              clear HT4 HP4 HB hgoF hgo1
              go_upto_region 19 with fail
              obtain ⟨w5, rfl⟩ : ∃ w5, w5 = wc := ⟨_, rfl⟩
              go_cut [11] (fun v wx => v = .int .i64 0 ∧ w5 = wx)
              case first =>
                go_wp2_with fail
                go_meet
                exact ⟨rfl, rfl⟩
              obtain ⟨rfl, hw5⟩ := hcut
              subst hw5
              apply_assumption
              refine wp_seq_k ?_
              intro KR hKR
              have HPP : Hid (x'.p = y.p) := Lib.hid (by rw [HXP.out]; exact HP.out)
              have HBX : Hid (Bd x'.p (400 * j)) := Lib.hid (by rw [HXP.out]; exact HBD.out)
              have HNN : Hid (x'.n = y.n) := Lib.hid (by rw [NetV.n_p hP.nn, HPP.out, hP.rr.len_p])
              have HPN := Lib.hid hP
              have HT := Lib.hid hT
              have HB := Lib.hid hB
              have HOK := HO.out
              have hk8 := HOK.k
              have ha7 := and7n o.kind hk8
              have hkl : o.kind % 8 < 8 := by omega
              generalize o.kind % 8 = q at *
              have c0 := hB.cell 0
              have c1 := hB.cell 1
              have c2 := hB.cell 2
              have c3 := hB.cell 3
              simp only [List.getElem?_cons_zero, List.getElem?_cons_succ] at c0 c1 c2 c3
              clear hP hT hB HP HBD HXP
              go_cut [10, 11] (fun e f wx => ∃ (F2 : Nat → Bool) (x2 y2 : NetV) (cv : Int), e = .int .i64 cv ∧ f = .int .i64 cv ∧ PN w wx F2 g' gy x2 y2 ∧ Hid (x2.p = y2.p) ∧ Bd x2.p (400 * j + 400) ∧ Blk wx go 59 [.int .u8 o.kind, .int .i64 o.a, .int .i64 o.b, .int .i64 o.c, .slice o.A o.n o.cp] ∧ F2 go = false)
              case first =>
                as_aux_lemma =>
                  rcases (show q = 0 ∨ q = 1 ∨ q = 2 ∨ q = 3 ∨ q = 4 ∨ q = 5 ∨ (q ≠ 0 ∧ q ≠ 1 ∧ q ≠ 2 ∧ q ≠ 3 ∧ q ≠ 4 ∧ q ≠ 5) by omega) with rfl | rfl | rfl | rfl | rfl | rfl | ⟨q0, q1, q2, q3, q4, q5⟩
                  · as_aux_lemma =>
                      have HS := Lib.hid (net_Send F' g' x' A8 m c8 ls w5 HPN.out.nn HT.out.unmask (by omega) (fun z hz => by have := HDN.out z hz; omega) (by have := HBX.out.1; change x'.sent ≤ _ at this; omega) (by have := HBX.out.2.2; change x'.lost ≤ _ at this; omega))
                      go_wp2_with fail
                      refine HS.out.mono ?_
                      rintro e w6 ⟨x2, F2, rfl, hN6, hp6, hF6, hf6⟩
                      have hP6 := HPN.out.nstep hN6 hF6 hf6
                      have hT6 := Ts.nstep HPN.out HT.out hF6 hf6
                      have hB6 := HB.out.fr hf6 hgoF'
                      have hg6 : F2 go = false := by rw [hF6 go HB.out.lt]; exact hgoF'
                      have HR := Lib.hid (ref21_Send (GF F2 gy) gy y A8 m c8 ls w6 hP6.rr hP6.ub hT6.unmask (by omega) (fun z hz => by have := HDN.out z hz; omega) (by have := HBX.out.1; rw [HPP.out] at this; change y.sent ≤ _ at this; omega) (by have := HBX.out.2.2; rw [HPP.out] at this; change y.lost ≤ _ at this; omega))
                      have HP6 := Lib.hid hP6
                      have HB6 := Lib.hid hB6
                      have HQ6 := Lib.hid hp6
                      clear HS hN6 hp6 hF6 hf6 hP6 hT6 hB6
                      go_wp2_with fail
                      refine HR.out.mono ?_
                      rintro e w7 ⟨y2, rfl, hR7, hq7, hf7⟩
                      have HP7 := Lib.hid (HP6.out.ystep hR7 hf7)
                      have HB7 := Lib.hid (HB6.out.fr hf7 (by simp; omega))
                      have HX7 : Hid (x2.p = y2.p) := Lib.hid (by rw [HQ6.out, hq7, HPP.out])
                      have HBD7 : Hid (Bd x2.p (400 * j + 400)) := Lib.hid (by rw [HQ6.out]; exact (HBX.out.send (by have := HM.out; omega)).mono (by omega))
                      clear HR hR7 hq7 hf7
                      go_wp2_with fail
                      go_meet
                      exact ⟨F2, x2, y2, _, rfl, by rw [HNN.out], HP7.out, HX7, HBD7.out, HB7.out, hg6⟩
                  · as_aux_lemma =>
                      have HS := Lib.hid (net_Take F' g' x' o.a w5 HPN.out.nn (by have := HBX.out.2.1; change x'.taken ≤ _ at this; omega))
                      go_wp2_with fail
                      refine HS.out.mono ?_
                      rintro e w6 ⟨lx, cx, rfl, hO6, hn6, hR6, hN6, hf6⟩
                      have hp6 := takep_p HPN.out.nn.len o.a
                      have hP6 := HPN.out.nstep hN6 (fun _ _ => rfl) hf6
                      have hB6 := HB.out.fr hf6 hgoF'
                      have HAT : Hid (x'.at o.a = y.at o.a) := Lib.hid (by rw [← NetV.at_p HPN.out.nn, HPP.out, at_p HPN.out.rr.len])
                      unfold LV.val
                      clear HS hN6 hf6 c0 c1 c2 c3
                      go_upto_region 26 with fail
                      have hBx := Blk.new w6 26 [.int .i64 lx.kind, .int .i64 lx.src, .int .i64 lx.dst, .int .i64 lx.term, .int .i64 lx.a, .int .i64 lx.b, .int .i64 lx.c, .int .i64 lx.bin, .bool lx.ok, .slice lx.A lx.n lx.cp]
                      have x7 : Ext w6 (w6.alloc (.cells #[.int .i64 lx.kind, .int .i64 lx.src, .int .i64 lx.dst, .int .i64 lx.term, .int .i64 lx.a, .int .i64 lx.b, .int .i64 lx.c, .int .i64 lx.bin, .bool lx.ok, .slice lx.A lx.n lx.cp] 26)) := (Ext.refl w6).alloc _
                      have hP7 := hP6.ext x7
                      have hB7 := hB6.ext x7
                      have hox : ∀ (V : World), Fr (fun k => k == gy) (w6.alloc (.cells #[.int .i64 lx.kind, .int .i64 lx.src, .int .i64 lx.dst, .int .i64 lx.term, .int .i64 lx.a, .int .i64 lx.b, .int .i64 lx.c, .int .i64 lx.bin, .bool lx.ok, .slice lx.A lx.n lx.cp] 26)) V → lx.Ok V := fun V hf => (hO6.ext x7).frok (fun k hk => by rw [eq_of_beq hk]; exact HPN.out.rr.ub) hf
                      have hgx : w6.heap.size < (w6.alloc (.cells #[.int .i64 lx.kind, .int .i64 lx.src, .int .i64 lx.dst, .int .i64 lx.term, .int .i64 lx.a, .int .i64 lx.b, .int .i64 lx.c, .int .i64 lx.bin, .bool lx.ok, .slice lx.A lx.n lx.cp] 26)).heap.size := hBx.lt
                      have hgxF : GF F' gy w6.heap.size = false := by
                        cases e : GF F' gy w6.heap.size with
                        | false => rfl
                        | true => have := hP6.ub _ e; omega
                      have hgxo : gy ≠ w6.heap.size := by have := hP6.rr.ub; omega
                      generalize w6.heap.size = gx at hBx hgx hgxF hgxo ⊢
                      generalize w6.alloc (.cells #[.int .i64 lx.kind, .int .i64 lx.src, .int .i64 lx.dst, .int .i64 lx.term, .int .i64 lx.a, .int .i64 lx.b, .int .i64 lx.c, .int .i64 lx.bin, .bool lx.ok, .slice lx.A lx.n lx.cp] 26) = W7 at *
                      have k1 := hB7.cell 1
                      simp only [List.getElem?_cons_zero, List.getElem?_cons_succ] at k1
                      have HR := Lib.hid (ref21_Take (GF F' gy) gy y o.a W7 hP7.rr hP7.ub (by have := HBX.out.2.1; rw [HPP.out] at this; change y.taken ≤ _ at this; omega))
                      have HP7 := Lib.hid hP7
                      have HB7 := Lib.hid hB7
                      have HQ6 := Lib.hid hp6
                      have HBXX := Lib.hid hBx
                      have HOX := Lib.hid hox
                      have HR6 := Lib.hid hR6
                      clear hP6 hB6 hp6 hB7 hP7 hBx hox hR6 hO6 x7
                      go_wp2_with fail
                      refine HR.out.mono ?_
                      rintro e w8 ⟨lz, cz, y2, rfl, hO8, hn8, hR8, hN8, hq8, hf8⟩
                      have hxo8 := HOX.out _ hf8
                      have hsame : cx = cz ∧ letEq lx lz = true := by
                        rcases HR6.out with ⟨t1, e1, e2⟩ | ⟨t1, ms, q1⟩
                        · rcases hR8 with ⟨t2, e3, e4⟩ | ⟨t2, _⟩
                          · subst e1 e3; exact ⟨e2.trans e4.symm, letEq_iff.2 rfl⟩
                          · rw [HNN.out, t2] at t1; cases t1
                        · rcases hR8 with ⟨t2, _, _⟩ | ⟨t2, Q, q2⟩
                          · rw [HNN.out, t2] at t1; cases t1
                          · rw [HAT.out] at q1
                            obtain ⟨a, b, _⟩ := taken_same q1 q2
                            exact ⟨a, b⟩
                      obtain ⟨rfl, heq⟩ := hsame
                      have HP8 := Lib.hid (HP7.out.ystep hN8 hf8)
                      have hB8 := HB7.out.fr hf8 (by simp; omega)
                      have hBx8 := HBXX.out.fr hf8 (by simp; omega)
                      have HX8 := Lib.hid (HQ6.out.trans ((congrArg (fun p => NetP.take p o.a) HPP.out).trans hq8.symm))
                      have HBD8 : Hid (Bd _ (400 * j + 400)) := Lib.hid (Eq.mpr (congrArg (fun p => Bd p (400 * j + 400)) HQ6.out) ((HBX.out.take o.a).mono (by omega)))
                      unfold LV.val
                      clear HR hR8 hN8 hq8 hf8 HR6 HOX k1
                      go_upto_region 27 with fail
                      have hBz := Blk.new w8 26 [.int .i64 lz.kind, .int .i64 lz.src, .int .i64 lz.dst, .int .i64 lz.term, .int .i64 lz.a, .int .i64 lz.b, .int .i64 lz.c, .int .i64 lz.bin, .bool lz.ok, .slice lz.A lz.n lz.cp]
                      have x9 : Ext w8 (w8.alloc (.cells #[.int .i64 lz.kind, .int .i64 lz.src, .int .i64 lz.dst, .int .i64 lz.term, .int .i64 lz.a, .int .i64 lz.b, .int .i64 lz.c, .int .i64 lz.bin, .bool lz.ok, .slice lz.A lz.n lz.cp] 26)) := (Ext.refl w8).alloc _
                      have hsm := ref16_SameB lx lz true heq (w8.alloc (.cells #[.int .i64 lz.kind, .int .i64 lz.src, .int .i64 lz.dst, .int .i64 lz.term, .int .i64 lz.a, .int .i64 lz.b, .int .i64 lz.c, .int .i64 lz.bin, .bool lz.ok, .slice lz.A lz.n lz.cp] 26)) (hxo8.ext x9) (hO8.ok.ext x9) (by omega) (by omega)
                      unfold LV.val at hsm
                      have hB9 := hB8.ext x9
                      have hBx9 := hBx8.ext x9
                      have HP9 := Lib.hid (HP8.out.ext x9)
                      generalize w8.heap.size = gz at hBz ⊢
                      generalize w8.alloc (.cells #[.int .i64 lz.kind, .int .i64 lz.src, .int .i64 lz.dst, .int .i64 lz.term, .int .i64 lz.a, .int .i64 lz.b, .int .i64 lz.c, .int .i64 lz.bin, .bool lz.ok, .slice lz.A lz.n lz.cp] 26) = W9 at *
                      have HSM := Lib.hid hsm
                      have HB9 := Lib.hid hB9
                      have p0 := hBx9.cell 0
                      have q0' := hBz.cell 0
                      have p1 := hBx9.cell 1
                      have q1' := hBz.cell 1
                      have p2 := hBx9.cell 2
                      have q2' := hBz.cell 2
                      have p3 := hBx9.cell 3
                      have q3' := hBz.cell 3
                      have p4 := hBx9.cell 4
                      have q4' := hBz.cell 4
                      have p5 := hBx9.cell 5
                      have q5' := hBz.cell 5
                      have p6 := hBx9.cell 6
                      have q6' := hBz.cell 6
                      have p7 := hBx9.cell 7
                      have q7' := hBz.cell 7
                      have p8 := hBx9.cell 8
                      have q8' := hBz.cell 8
                      have p9 := hBx9.cell 9
                      have q9' := hBz.cell 9
                      simp only [List.getElem?_cons_zero, List.getElem?_cons_succ] at p0 q0' p1 q1' p2 q2' p3 q3' p4 q4' p5 q5' p6 q6' p7 q7' p8 q8' p9 q9'
                      clear hsm hB9 hBx9 hBz x9 hB8 hBx8 hxo8 hO8 heq HP8 HB7 HBXX
                      go_wp2_with fail
                      refine HSM.out.mono ?_
                      rintro e w10 ⟨rfl, x10⟩
                      have HP10 := Lib.hid (HP9.out.ext x10)
                      have HB10 := Lib.hid (HB9.out.ext x10)
                      clear HSM x10 p0 q0' p1 q1' p2 q2' p3 q3' p4 q4' p5 q5' p6 q6' p7 q7' p8 q8' p9 q9'
                      go_wp2_with fail
                      go_meet
                      exact ⟨F', _, y2, 0, rfl, rfl, HP10.out, HX8, HBD8.out, HB10.out, hgoF'⟩
                  · as_aux_lemma =>
                      have HS := Lib.hid (net_Drop F' g' x' o.a w5 HPN.out.nn (by have := HBX.out.2.2; change x'.lost ≤ _ at this; omega))
                      go_wp2_with fail
                      refine HS.out.mono ?_
                      rintro e w6 ⟨rfl, hN6, hf6⟩
                      have hp6 := drop_p HPN.out.nn.len o.a
                      have hP6 := HPN.out.nstep hN6 (fun _ _ => rfl) hf6
                      have hB6 := HB.out.fr hf6 hgoF'
                      have k1 := hB6.cell 1
                      simp only [List.getElem?_cons_zero, List.getElem?_cons_succ] at k1
                      have HR := Lib.hid (ref21_Drop (GF F' gy) gy y o.a w6 hP6.rr hP6.ub (by have := HBX.out.2.2; rw [HPP.out] at this; change y.lost ≤ _ at this; omega))
                      have HP6 := Lib.hid hP6
                      have HB6 := Lib.hid hB6
                      have HQ6 := Lib.hid hp6
                      clear HS hN6 hp6 hf6 hP6 hB6 c0 c1 c2 c3
                      go_wp2_with fail
                      refine HR.out.mono ?_
                      rintro e w7 ⟨y2, rfl, hR7, hq7, hf7⟩
                      have HP7 := Lib.hid (HP6.out.ystep hR7 hf7)
                      have HB7 := Lib.hid (HB6.out.fr hf7 (by simp; omega))
                      have HX7 := Lib.hid (HQ6.out.trans ((congrArg (fun p => NetP.drop p o.a) HPP.out).trans hq7.symm))
                      have HBD7 : Hid (Bd _ (400 * j + 400)) := Lib.hid (Eq.mpr (congrArg (fun p => Bd p (400 * j + 400)) HQ6.out) ((HBX.out.drop o.a).mono (by omega)))
                      clear HR hR7 hq7 hf7
                      go_wp2_with fail
                      go_meet
                      exact ⟨F', _, y2, _, rfl, by rw [HNN.out], HP7.out, HX7, HBD7.out, HB7.out, hgoF'⟩
                  · as_aux_lemma =>
                      have HS := Lib.hid (net_Twice F' g' x' o.a w5 HPN.out.nn (by have := HBX.out.1; change x'.sent ≤ _ at this; omega))
                      go_wp2_with fail
                      refine HS.out.mono ?_
                      rintro e w6 ⟨x2, F2, rfl, hN6, hp6, hF6, hf6⟩
                      have hP6 := HPN.out.nstep hN6 hF6 hf6
                      have hB6 := HB.out.fr hf6 hgoF'
                      have hg6 : F2 go = false := by rw [hF6 go HB.out.lt]; exact hgoF'
                      have k1 := hB6.cell 1
                      simp only [List.getElem?_cons_zero, List.getElem?_cons_succ] at k1
                      have HR := Lib.hid (ref21_Twice (GF F2 gy) gy y o.a w6 hP6.rr hP6.ub (by have := HBX.out.1; rw [HPP.out] at this; change y.sent ≤ _ at this; omega))
                      have HP6 := Lib.hid hP6
                      have HB6 := Lib.hid hB6
                      have HQ6 := Lib.hid hp6
                      clear HS hN6 hp6 hF6 hf6 hP6 hB6 c0 c1 c2 c3
                      go_wp2_with fail
                      refine HR.out.mono ?_
                      rintro e w7 ⟨y2, rfl, hR7, hq7, hf7⟩
                      have HP7 := Lib.hid (HP6.out.ystep hR7 hf7)
                      have HB7 := Lib.hid (HB6.out.fr hf7 (by simp; omega))
                      have HX7 : Hid (x2.p = y2.p) := Lib.hid (by rw [HQ6.out, hq7, HPP.out])
                      have HBD7 : Hid (Bd x2.p (400 * j + 400)) := Lib.hid (by rw [HQ6.out]; exact (HBX.out.twice o.a).mono (by omega))
                      clear HR hR7 hq7 hf7
                      go_wp2_with fail
                      go_meet
                      exact ⟨F2, x2, y2, _, rfl, by rw [HNN.out], HP7.out, HX7, HBD7.out, HB7.out, hg6⟩
                  · as_aux_lemma =>
                      have HS := Lib.hid (net_Turn F' g' x' o.a o.b o.c w5 HPN.out.nn)
                      go_wp2_with fail
                      refine HS.out.mono ?_
                      rintro e w6 ⟨rfl, hN6, hf6⟩
                      have hp6 := (turnp_p HPN.out.nn.len o.a o.b o.c).1
                      have hP6 := HPN.out.nstep hN6 (fun _ _ => rfl) hf6
                      have hB6 := HB.out.fr hf6 hgoF'
                      have k1 := hB6.cell 1
                      have k2 := hB6.cell 2
                      have k3 := hB6.cell 3
                      simp only [List.getElem?_cons_zero, List.getElem?_cons_succ] at k1 k2 k3
                      have HR := Lib.hid (ref21_Turn (GF F' gy) gy y o.a o.b o.c w6 hP6.rr hP6.ub)
                      have HP6 := Lib.hid hP6
                      have HB6 := Lib.hid hB6
                      have HQ6 := Lib.hid hp6
                      clear HS hN6 hp6 hf6 hP6 hB6 c0 c1 c2 c3
                      go_wp2_with fail
                      refine HR.out.mono ?_
                      rintro e w7 ⟨y2, rfl, hR7, hq7, hf7⟩
                      have HP7 := Lib.hid (HP6.out.ystep hR7 hf7)
                      have HB7 := Lib.hid (HB6.out.fr hf7 (by simp; omega))
                      have HX7 := Lib.hid (HQ6.out.trans ((congrArg (fun p => NetP.turn p o.a o.b o.c) HPP.out).trans hq7.symm))
                      have HBD7 : Hid (Bd _ (400 * j + 400)) := Lib.hid (Eq.mpr (congrArg (fun p => Bd p (400 * j + 400)) HQ6.out) ((HBX.out.turn o.a o.b o.c).mono (by omega)))
                      clear HR hR7 hq7 hf7
                      go_wp2_with fail
                      go_meet
                      exact ⟨F', _, y2, _, rfl, by rw [(turnp_p HPN.out.nn.len o.a o.b o.c).2, (turnp_p HPN.out.rr.len o.a o.b o.c).2, HPP.out], HP7.out, HX7, HBD7.out, HB7.out, hgoF'⟩
                  · as_aux_lemma =>
                      have HPN0 := HPN
                      go_wp2_with fail
                      go_loopw [10, 11, 17] (fun e f i wr => ∃ t : Nat, i = .int .i64 t ∧ t ≤ 40 ∧ ∃ (F2 : Nat → Bool) (x2 y2 : NetV) (cv : Int), e = .int .i64 cv ∧ f = .int .i64 cv ∧ PN w wr F2 g' gy x2 y2 ∧ Ts (mask (GF F2 gy) wr) A8 m ls ∧ Hid (x2.p = y2.p) ∧ Bd x2.p (400 * j + 8 * t) ∧ Blk wr go 59 [.int .u8 o.kind, .int .i64 o.a, .int .i64 o.b, .int .i64 o.c, .slice o.A o.n o.cp] ∧ F2 go = false) (fun _ _ i _ => 40 - (intOf i).toNat)
                      case atStart => exact ⟨0, rfl, by omega, F', x', y, 0, rfl, rfl, HPN.out, HT.out, HPP, HBX.out.mono (by omega), HB.out, hgoF'⟩
                      case round =>
                        as_aux_lemma =>
                          clear HPN HPN0 HT HPP HBX HB c0 c1 c2 c3 HNN
                          obtain ⟨t, rfl, ht, F2, x2, y2, cv, rfl, rfl, hP, hT, hpp, hbd, hB, hgF⟩ := hrel
                          obtain ⟨w8, rfl⟩ : ∃ w8, w8 = wr := ⟨_, rfl⟩
                          have HPN := Lib.hid hP
                          have HT := Lib.hid hT
                          have HB := Lib.hid hB
                          have HBX := Lib.hid hbd
                          have HNN : Hid (x2.n = y2.n) := Lib.hid (by rw [NetV.n_p hP.nn, hpp.out, hP.rr.len_p])
                          clear hP hT hB hbd
                          by_cases ht4 : t < 40
                          · as_aux_lemma =>
                              have ht0 : (t : Int) < 40 := by omega
                              have HS := Lib.hid (net_Send F2 g' x2 A8 m c8 ls w8 HPN.out.nn HT.out.unmask (by omega) (fun z hz => by have := HDN.out z hz; omega) (by have := HBX.out.1; change x2.sent ≤ _ at this; omega) (by have := HBX.out.2.2; change x2.lost ≤ _ at this; omega))
                              go_wp2_with fail
                              refine HS.out.mono ?_
                              rintro e w6 ⟨x3, F3, rfl, hN6, hp6, hF6, hf6⟩
                              have hP6 := HPN.out.nstep hN6 hF6 hf6
                              have hT6 := Ts.nstep HPN.out HT.out hF6 hf6
                              have hB6 := HB.out.fr hf6 hgF
                              have hg6 : F3 go = false := by rw [hF6 go HB.out.lt]; exact hgF
                              have HR := Lib.hid (ref21_Send (GF F3 gy) gy y2 A8 m c8 ls w6 hP6.rr hP6.ub hT6.unmask (by omega) (fun z hz => by have := HDN.out z hz; omega) (by have := HBX.out.1; rw [hpp.out] at this; change y2.sent ≤ _ at this; omega) (by have := HBX.out.2.2; rw [hpp.out] at this; change y2.lost ≤ _ at this; omega))
                              have HP6 := Lib.hid hP6
                              have HT6 := Lib.hid hT6
                              have HB6 := Lib.hid hB6
                              have HQ6 := Lib.hid hp6
                              clear HS hN6 hp6 hF6 hf6 hP6 hT6 hB6
                              go_wp2_with fail
                              refine HR.out.mono ?_
                              rintro e w7 ⟨y3, rfl, hR7, hq7, hf7⟩
                              have HP7 := Lib.hid (HP6.out.ystep hR7 hf7)
                              have HT7 := Lib.hid (Ts.ystep HT6.out hf7)
                              have HB7 := Lib.hid (HB6.out.fr hf7 (by simp; omega))
                              have HX7 : Hid (x3.p = y3.p) := Lib.hid (by rw [HQ6.out, hq7, hpp.out])
                              have HBD7 : Hid (Bd x3.p (400 * j + 8 * (t + 1 : Nat))) := Lib.hid (by rw [HQ6.out]; exact (HBX.out.send (by have := HM.out; omega)).mono (by omega))
                              clear HR hR7 hq7 hf7
                              go_wp2_with fail
                              go_roundw
                              case rel => exact ⟨t + 1, val_int (by omega), by omega, F3, x3, y3, _, rfl, by rw [HNN.out], HP7.out, HT7.out, HX7, HBD7.out, HB7.out, hg6⟩
                              case measure => simp [intOf]; omega
                          · have ht0 : ¬ ((t : Int) < 40) := by omega
                            go_wp2_with fail
                            go_meet
                            exact ⟨F2, x2, y2, cv, rfl, rfl, HPN.out, hpp, HBX.out.mono (by omega), HB.out, hgF⟩
                  · go_wp2_with fail
                    go_meet
                    exact ⟨F', x', y, 0, rfl, rfl, HPN.out, HPP, HBX.out.mono (by omega), HB.out, hgoF'⟩
              case rest =>
                as_aux_lemma =>
                  clear HPN HT HB HPP HBX HNN c0 c1 c2 c3
                  obtain ⟨F2, x2, y2, cv, rfl, rfl, hP, HPP, hbd, hB, hgF⟩ := hcut
                  obtain ⟨w8, rfl⟩ : ∃ w8, w8 = wc := ⟨_, rfl⟩
                  have en : x2.n = y2.n := by rw [NetV.n_p hP.nn, HPP.out, hP.rr.len_p]
                  have e1 : x2.sent = y2.sent := congrArg NetP.sent HPP.out
                  have e2 : x2.taken = y2.taken := congrArg NetP.taken HPP.out
                  have e3 : x2.lost = y2.lost := congrArg NetP.lost HPP.out
                  have ea : x2.at o.a = y2.at o.a := by rw [← NetV.at_p hP.nn, HPP.out, at_p hP.rr.len]
                  have hct := net_Counts F2 g' x2 w8 hP.nn
                  have hln := fun (V : World) (h : Ext w8 V) => net_Len F2 g' x2 V (hP.ext h).nn
                  have hnb := fun (V : World) (h : Ext w8 V) => net_Bytes F2 g' x2 o.a V (hP.ext h).nn
                  have hrb := fun (V : World) (h : Ext w8 V) => ref21_Bytes (GF F2 gy) gy y2 o.a V (hP.ext h).rr
                  rw [e1, e2, e3] at hct
                  simp only [en] at hln
                  simp only [ea] at hnb
                  have HCT := Lib.hid hct
                  have HLN := Lib.hid hln
                  have HNB := Lib.hid hnb
                  have HRB := Lib.hid hrb
                  have HSX : Hid (∀ (V : World), Ext w8 V → (V.cell? ⟨gy, 0, none⟩ = some (.slice y2.A y2.n y2.c) ∧ V.cell? ⟨gy, 1, none⟩ = some (.int .i64 y2.sent) ∧ V.cell? ⟨gy, 2, none⟩ = some (.int .i64 y2.taken) ∧ V.cell? ⟨gy, 3, none⟩ = some (.int .i64 y2.lost) ∧ V.cell? ⟨go, 1, none⟩ = some (.int .i64 o.a))) := Lib.hid fun V h => by
                    obtain ⟨a0, a1, a2, a3⟩ := (hP.ext h).rr.cells
                    exact ⟨a0, a1, a2, a3, (hB.ext h).cell 1⟩
                  have HP8 := Lib.hid hP
                  have HBD := Lib.hid hbd
                  clear hct hln hnb hrb en e1 e2 e3 ea hP hbd hB
                  go_wp2_with fail
                  refine HCT.out.mono ?_
                  rintro e w6 ⟨rfl, kk, rfl⟩
                  go_upto_region 46 with fail
                  have yd : Ext w8 (w8.drewN kk) := (Ext.refl w8).drewN kk
                  generalize w8.drewN kk = W6 at *
                  obtain ⟨a0, a1, a2, a3, a4⟩ := HSX.out _ yd
                  have y0 := yd.drew
                  clear HCT
                  refine WT.start (z := 49) (n := 50) rfl (fun V => V.cell? ⟨gy, 0, none⟩ = some (.slice y2.A y2.n y2.c) ∧ V.cell? ⟨gy, 1, none⟩ = some (.int .i64 y2.sent) ∧ V.cell? ⟨gy, 2, none⟩ = some (.int .i64 y2.taken) ∧ V.cell? ⟨gy, 3, none⟩ = some (.int .i64 y2.lost) ∧ V.cell? ⟨go, 1, none⟩ = some (.int .i64 o.a)) (by kernel_rfl) (HSX.out _ y0) ?_
                  simp only [List.replicate]
                  refine WT.take (i := 0) (v := ?_) rfl (by kernel_rfl) (by kernel_rfl) (by kernel_rfl) (by rfl) (by kernel_rfl) (fun _ _ _ h => h) (Or.inl ⟨by rfl, ?_⟩) ?_
                  rotate_left
                  · intro w hSw
                    (try dsimp only at hSw)
                    go_simp
                    try with_reducible rfl
                  try simp only [Act.put, List.setIfInBounds_toArray, List.set_cons_zero, List.set_cons_succ]
                  refine WT.take (i := 1) (v := ?_) rfl (by kernel_rfl) (by kernel_rfl) (by kernel_rfl) (by rfl) (by kernel_rfl) (fun _ _ _ h => h) (Or.inl ⟨by rfl, ?_⟩) ?_
                  rotate_left
                  · intro w hSw
                    (try dsimp only at hSw)
                    go_simp
                    try with_reducible rfl
                  try simp only [Act.put, List.setIfInBounds_toArray, List.set_cons_zero, List.set_cons_succ]
                  refine WT.take (i := 2) (v := ?_) rfl (by kernel_rfl) (by kernel_rfl) (by kernel_rfl) (by rfl) (by kernel_rfl) (fun _ _ _ h => h) (Or.inl ⟨by rfl, ?_⟩) ?_
                  rotate_left
                  · intro w hSw
                    (try dsimp only at hSw)
                    go_simp
                    try with_reducible rfl
                  try simp only [Act.put, List.setIfInBounds_toArray, List.set_cons_zero, List.set_cons_succ]
                  refine WT.take (i := 3) (v := ?_) rfl (by kernel_rfl) (by kernel_rfl) (by kernel_rfl) (by rfl) (by kernel_rfl) (fun _ _ _ h => h) (Or.inl ⟨by rfl, ?_⟩) ?_
                  rotate_left
                  · intro w hSw
                    (try dsimp only at hSw)
                    go_simp
                    try with_reducible rfl
                  try simp only [Act.put, List.setIfInBounds_toArray, List.set_cons_zero, List.set_cons_succ]
                  refine WT.take (i := 4) (v := ?_) rfl (by kernel_rfl) (by kernel_rfl) (by kernel_rfl) (by rfl) (by kernel_rfl) (fun _ _ _ h => h) (Or.inl ⟨by rfl, ?_⟩) ?_
                  rotate_left
                  · intro w hSw
                    (try dsimp only at hSw)
                    go_simp
                    try with_reducible rfl
                  try simp only [Act.put, List.setIfInBounds_toArray, List.set_cons_zero, List.set_cons_succ]
                  refine WT.take (i := 6) (v := ?_) rfl (by kernel_rfl) (by kernel_rfl) (by kernel_rfl) (by rfl) (by kernel_rfl) (fun _ _ _ h => h) (Or.inl ⟨by rfl, ?_⟩) ?_
                  rotate_left
                  · intro w hSw
                    (try dsimp only at hSw)
                    go_simp
                    try with_reducible rfl
                  try simp only [Act.put, List.setIfInBounds_toArray, List.set_cons_zero, List.set_cons_succ]
                  refine WT.take (i := 7) (v := ?_) rfl (by kernel_rfl) (by kernel_rfl) (by kernel_rfl) (by rfl) (by kernel_rfl) (fun _ _ _ h => h) (Or.inl ⟨by rfl, ?_⟩) ?_
                  rotate_left
                  · intro w hSw
                    (try dsimp only at hSw)
                    go_simp
                    try with_reducible rfl
                  try simp only [Act.put, List.setIfInBounds_toArray, List.set_cons_zero, List.set_cons_succ]
                  refine WT.take (i := 8) (v := ?_) rfl (by kernel_rfl) (by kernel_rfl) (by kernel_rfl) (by rfl) (by kernel_rfl) (fun _ _ _ h => h) (Or.inl ⟨by rfl, ?_⟩) ?_
                  rotate_left
                  · intro w hSw
                    (try dsimp only at hSw)
                    go_simp
                    try with_reducible rfl
                  try simp only [Act.put, List.setIfInBounds_toArray, List.set_cons_zero, List.set_cons_succ]
                  refine WT.take (i := 9) (v := ?_) rfl (by kernel_rfl) (by kernel_rfl) (by kernel_rfl) (by rfl) (by kernel_rfl) (fun _ _ _ h => h) (Or.inl ⟨by rfl, ?_⟩) ?_
                  rotate_left
                  · intro w hSw
                    (try dsimp only at hSw)
                    go_simp
                    try with_reducible rfl
                  try simp only [Act.put, List.setIfInBounds_toArray, List.set_cons_zero, List.set_cons_succ]
                  refine WT.take (i := 10) (v := ?_) rfl (by kernel_rfl) (by kernel_rfl) (by kernel_rfl) (by rfl) (by kernel_rfl) (fun _ _ _ h => h) (Or.inl ⟨by rfl, ?_⟩) ?_
                  rotate_left
                  · intro w hSw
                    (try dsimp only at hSw)
                    go_simp
                    try with_reducible rfl
                  try simp only [Act.put, List.setIfInBounds_toArray, List.set_cons_zero, List.set_cons_succ]
                  refine WT.ready (rs := [5]) (by kernel_rfl) (by simp) ?_
                  refine RT.cons rfl (by rfl) (fun K hK => ?_) RT.nil
                  go_simp
                  refine (HLN.out _ y0).mono ?_
                  rintro e w9 ⟨rfl, rfl⟩
                  try go_wp2_with fail
                  refine hK.out _ _ (by first | (exact HSX.out _ y1) | (exact HSX.out _ y0)) ?_
                  clear hK K
                  refine WT.take (i := 11) (v := ?_) rfl (by kernel_rfl) (by kernel_rfl) (by kernel_rfl) (by rfl) (by kernel_rfl) (fun _ _ _ h => h) (Or.inl ⟨by rfl, ?_⟩) ?_
                  rotate_left
                  · intro w hSw
                    (try dsimp only at hSw)
                    go_simp
                    try with_reducible rfl
                  try simp only [Act.put, List.setIfInBounds_toArray, List.set_cons_zero, List.set_cons_succ]
                  refine WT.take (i := 12) (v := ?_) rfl (by kernel_rfl) (by kernel_rfl) (by kernel_rfl) (by rfl) (by kernel_rfl) (fun _ _ _ h => h) (Or.inl ⟨by rfl, ?_⟩) ?_
                  rotate_left
                  · intro w hSw
                    (try dsimp only at hSw)
                    go_simp
                    try with_reducible rfl
                  try simp only [Act.put, List.setIfInBounds_toArray, List.set_cons_zero, List.set_cons_succ]
                  refine WT.take (i := 13) (v := ?_) rfl (by kernel_rfl) (by kernel_rfl) (by kernel_rfl) (by rfl) (by kernel_rfl) (fun _ _ _ h => h) (Or.inl ⟨by rfl, ?_⟩) ?_
                  rotate_left
                  · intro w hSw
                    (try dsimp only at hSw)
                    go_simp
                    try with_reducible rfl
                  try simp only [Act.put, List.setIfInBounds_toArray, List.set_cons_zero, List.set_cons_succ]
                  refine WT.take (i := 14) (v := ?_) rfl (by kernel_rfl) (by kernel_rfl) (by kernel_rfl) (by rfl) (by kernel_rfl) (fun _ _ _ h => h) (Or.inl ⟨by rfl, ?_⟩) ?_
                  rotate_left
                  · intro w hSw
                    (try dsimp only at hSw)
                    go_simp
                    try with_reducible rfl
                  try simp only [Act.put, List.setIfInBounds_toArray, List.set_cons_zero, List.set_cons_succ]
                  refine WT.take (i := 15) (v := ?_) rfl (by kernel_rfl) (by kernel_rfl) (by kernel_rfl) (by rfl) (by kernel_rfl) (fun _ _ _ h => h) (Or.inl ⟨by rfl, ?_⟩) ?_
                  rotate_left
                  · intro w hSw
                    (try dsimp only at hSw)
                    go_simp
                    try with_reducible rfl
                  try simp only [Act.put, List.setIfInBounds_toArray, List.set_cons_zero, List.set_cons_succ]
                  refine WT.take (i := 16) (v := ?_) rfl (by kernel_rfl) (by kernel_rfl) (by kernel_rfl) (by rfl) (by kernel_rfl) (fun _ _ _ h => h) (Or.inl ⟨by rfl, ?_⟩) ?_
                  rotate_left
                  · intro w hSw
                    (try dsimp only at hSw)
                    go_simp
                    try with_reducible rfl
                  try simp only [Act.put, List.setIfInBounds_toArray, List.set_cons_zero, List.set_cons_succ]
                  refine WT.take (i := 17) (v := ?_) rfl (by kernel_rfl) (by kernel_rfl) (by kernel_rfl) (by rfl) (by kernel_rfl) (fun _ _ _ h => h) (Or.inl ⟨by rfl, ?_⟩) ?_
                  rotate_left
                  · intro w hSw
                    (try dsimp only at hSw)
                    go_simp
                    try with_reducible rfl
                  try simp only [Act.put, List.setIfInBounds_toArray, List.set_cons_zero, List.set_cons_succ]
                  refine WT.take (i := 18) (v := ?_) rfl (by kernel_rfl) (by kernel_rfl) (by kernel_rfl) (by rfl) (by kernel_rfl) (fun _ _ _ h => h) (Or.inl ⟨by rfl, ?_⟩) ?_
                  rotate_left
                  · intro w hSw
                    (try dsimp only at hSw)
                    go_simp
                    try with_reducible rfl
                  try simp only [Act.put, List.setIfInBounds_toArray, List.set_cons_zero, List.set_cons_succ]
                  refine WT.take (i := 19) (v := ?_) rfl (by kernel_rfl) (by kernel_rfl) (by kernel_rfl) (by rfl) (by kernel_rfl) (fun _ _ _ h => h) (Or.inl ⟨by rfl, ?_⟩) ?_
                  rotate_left
                  · intro w hSw
                    (try dsimp only at hSw)
                    go_simp
                    try with_reducible rfl
                  try simp only [Act.put, List.setIfInBounds_toArray, List.set_cons_zero, List.set_cons_succ]
                  refine WT.take (i := 20) (v := ?_) rfl (by kernel_rfl) (by kernel_rfl) (by kernel_rfl) (by rfl) (by kernel_rfl) (fun _ _ _ h => h) (Or.inl ⟨by rfl, ?_⟩) ?_
                  rotate_left
                  · intro w hSw
                    (try dsimp only at hSw)
                    go_simp
                    try with_reducible rfl
                  try simp only [Act.put, List.setIfInBounds_toArray, List.set_cons_zero, List.set_cons_succ]
                  refine WT.take (i := 21) (v := ?_) rfl (by kernel_rfl) (by kernel_rfl) (by kernel_rfl) (by rfl) (by kernel_rfl) (fun _ _ _ h => h) (Or.inl ⟨by rfl, ?_⟩) ?_
                  rotate_left
                  · intro w hSw
                    (try dsimp only at hSw)
                    go_simp
                    try with_reducible rfl
                  try simp only [Act.put, List.setIfInBounds_toArray, List.set_cons_zero, List.set_cons_succ]
                  refine WT.take (i := 22) (v := ?_) rfl (by kernel_rfl) (by kernel_rfl) (by kernel_rfl) (by rfl) (by kernel_rfl) (fun _ _ _ h => h) (Or.inl ⟨by rfl, ?_⟩) ?_
                  rotate_left
                  · intro w hSw
                    (try dsimp only at hSw)
                    go_simp
                    try with_reducible rfl
                  try simp only [Act.put, List.setIfInBounds_toArray, List.set_cons_zero, List.set_cons_succ]
                  refine WT.take (i := 23) (v := ?_) rfl (by kernel_rfl) (by kernel_rfl) (by kernel_rfl) (by rfl) (by kernel_rfl) (fun _ _ _ h => h) (Or.inl ⟨by rfl, ?_⟩) ?_
                  rotate_left
                  · intro w hSw
                    (try dsimp only at hSw)
                    go_simp
                    try with_reducible rfl
                  try simp only [Act.put, List.setIfInBounds_toArray, List.set_cons_zero, List.set_cons_succ]
                  refine WT.take (i := 24) (v := ?_) rfl (by kernel_rfl) (by kernel_rfl) (by kernel_rfl) (by rfl) (by kernel_rfl) (fun _ _ _ h => h) (Or.inl ⟨by rfl, ?_⟩) ?_
                  rotate_left
                  · intro w hSw
                    (try dsimp only at hSw)
                    go_simp
                    try with_reducible rfl
                  try simp only [Act.put, List.setIfInBounds_toArray, List.set_cons_zero, List.set_cons_succ]
                  refine WT.take (i := 25) (v := ?_) rfl (by kernel_rfl) (by kernel_rfl) (by kernel_rfl) (by rfl) (by kernel_rfl) (fun _ _ _ h => h) (Or.inl ⟨by rfl, ?_⟩) ?_
                  rotate_left
                  · intro w hSw
                    (try dsimp only at hSw)
                    go_simp
                    try with_reducible rfl
                  try simp only [Act.put, List.setIfInBounds_toArray, List.set_cons_zero, List.set_cons_succ]
                  refine WT.take (i := 26) (v := ?_) rfl (by kernel_rfl) (by kernel_rfl) (by kernel_rfl) (by rfl) (by kernel_rfl) (fun _ _ _ h => h) (Or.inl ⟨by rfl, ?_⟩) ?_
                  rotate_left
                  · intro w hSw
                    (try dsimp only at hSw)
                    go_simp
                    try with_reducible rfl
                  try simp only [Act.put, List.setIfInBounds_toArray, List.set_cons_zero, List.set_cons_succ]
                  refine WT.take (i := 27) (v := ?_) rfl (by kernel_rfl) (by kernel_rfl) (by kernel_rfl) (by rfl) (by kernel_rfl) (fun _ _ _ h => h) (Or.inl ⟨by rfl, ?_⟩) ?_
                  rotate_left
                  · intro w hSw
                    (try dsimp only at hSw)
                    go_simp
                    try with_reducible rfl
                  try simp only [Act.put, List.setIfInBounds_toArray, List.set_cons_zero, List.set_cons_succ]
                  refine WT.take (i := 28) (v := ?_) rfl (by kernel_rfl) (by kernel_rfl) (by kernel_rfl) (by rfl) (by kernel_rfl) (fun _ _ _ h => h) (Or.inl ⟨by rfl, ?_⟩) ?_
                  rotate_left
                  · intro w hSw
                    (try dsimp only at hSw)
                    go_simp
                    try with_reducible rfl
                  try simp only [Act.put, List.setIfInBounds_toArray, List.set_cons_zero, List.set_cons_succ]
                  refine WT.take (i := 29) (v := ?_) rfl (by kernel_rfl) (by kernel_rfl) (by kernel_rfl) (by rfl) (by kernel_rfl) (fun _ _ _ h => h) (Or.inl ⟨by rfl, ?_⟩) ?_
                  rotate_left
                  · intro w hSw
                    (try dsimp only at hSw)
                    go_simp
                    try with_reducible rfl
                  try simp only [Act.put, List.setIfInBounds_toArray, List.set_cons_zero, List.set_cons_succ]
                  refine WT.take (i := 30) (v := ?_) rfl (by kernel_rfl) (by kernel_rfl) (by kernel_rfl) (by rfl) (by kernel_rfl) (fun _ _ _ h => h) (Or.inl ⟨by rfl, ?_⟩) ?_
                  rotate_left
                  · intro w hSw
                    (try dsimp only at hSw)
                    go_simp
                    try with_reducible rfl
                  try simp only [Act.put, List.setIfInBounds_toArray, List.set_cons_zero, List.set_cons_succ]
                  refine WT.take (i := 31) (v := ?_) rfl (by kernel_rfl) (by kernel_rfl) (by kernel_rfl) (by rfl) (by kernel_rfl) (fun _ _ _ h => h) (Or.inl ⟨by rfl, ?_⟩) ?_
                  rotate_left
                  · intro w hSw
                    (try dsimp only at hSw)
                    go_simp
                    try with_reducible rfl
                  try simp only [Act.put, List.setIfInBounds_toArray, List.set_cons_zero, List.set_cons_succ]
                  refine WT.take (i := 32) (v := ?_) rfl (by kernel_rfl) (by kernel_rfl) (by kernel_rfl) (by rfl) (by kernel_rfl) (fun _ _ _ h => h) (Or.inl ⟨by rfl, ?_⟩) ?_
                  rotate_left
                  · intro w hSw
                    (try dsimp only at hSw)
                    go_simp
                    try with_reducible rfl
                  try simp only [Act.put, List.setIfInBounds_toArray, List.set_cons_zero, List.set_cons_succ]
                  refine WT.take (i := 33) (v := ?_) rfl (by kernel_rfl) (by kernel_rfl) (by kernel_rfl) (by rfl) (by kernel_rfl) (fun _ _ _ h => h) (Or.inl ⟨by rfl, ?_⟩) ?_
                  rotate_left
                  · intro w hSw
                    (try dsimp only at hSw)
                    go_simp
                    try with_reducible rfl
                  try simp only [Act.put, List.setIfInBounds_toArray, List.set_cons_zero, List.set_cons_succ]
                  refine WT.take (i := 34) (v := ?_) rfl (by kernel_rfl) (by kernel_rfl) (by kernel_rfl) (by rfl) (by kernel_rfl) (fun _ _ _ h => h) (Or.inl ⟨by rfl, ?_⟩) ?_
                  rotate_left
                  · intro w hSw
                    (try dsimp only at hSw)
                    go_simp
                    try with_reducible rfl
                  try simp only [Act.put, List.setIfInBounds_toArray, List.set_cons_zero, List.set_cons_succ]
                  refine WT.take (i := 35) (v := ?_) rfl (by kernel_rfl) (by kernel_rfl) (by kernel_rfl) (by rfl) (by kernel_rfl) (fun _ _ _ h => h) (Or.inl ⟨by rfl, ?_⟩) ?_
                  rotate_left
                  · intro w hSw
                    (try dsimp only at hSw)
                    go_simp
                    try with_reducible rfl
                  try simp only [Act.put, List.setIfInBounds_toArray, List.set_cons_zero, List.set_cons_succ]
                  refine WT.take (i := 36) (v := ?_) rfl (by kernel_rfl) (by kernel_rfl) (by kernel_rfl) (by rfl) (by kernel_rfl) (fun _ _ _ h => h) (Or.inl ⟨by rfl, ?_⟩) ?_
                  rotate_left
                  · intro w hSw
                    (try dsimp only at hSw)
                    go_simp
                    try with_reducible rfl
                  try simp only [Act.put, List.setIfInBounds_toArray, List.set_cons_zero, List.set_cons_succ]
                  refine WT.take (i := 37) (v := ?_) rfl (by kernel_rfl) (by kernel_rfl) (by kernel_rfl) (by rfl) (by kernel_rfl) (fun _ _ _ h => h) (Or.inl ⟨by rfl, ?_⟩) ?_
                  rotate_left
                  · intro w hSw
                    (try dsimp only at hSw)
                    go_simp
                    try with_reducible rfl
                  try simp only [Act.put, List.setIfInBounds_toArray, List.set_cons_zero, List.set_cons_succ]
                  refine WT.take (i := 38) (v := ?_) rfl (by kernel_rfl) (by kernel_rfl) (by kernel_rfl) (by rfl) (by kernel_rfl) (fun _ _ _ h => h) (Or.inl ⟨by rfl, ?_⟩) ?_
                  rotate_left
                  · intro w hSw
                    (try dsimp only at hSw)
                    go_simp
                    try with_reducible rfl
                  try simp only [Act.put, List.setIfInBounds_toArray, List.set_cons_zero, List.set_cons_succ]
                  refine WT.take (i := 39) (v := ?_) rfl (by kernel_rfl) (by kernel_rfl) (by kernel_rfl) (by rfl) (by kernel_rfl) (fun _ _ _ h => h) (Or.inl ⟨by rfl, ?_⟩) ?_
                  rotate_left
                  · intro w hSw
                    (try dsimp only at hSw)
                    go_simp
                    try with_reducible rfl
                  try simp only [Act.put, List.setIfInBounds_toArray, List.set_cons_zero, List.set_cons_succ]
                  refine WT.take (i := 40) (v := ?_) rfl (by kernel_rfl) (by kernel_rfl) (by kernel_rfl) (by rfl) (by kernel_rfl) (fun _ _ _ h => h) (Or.inl ⟨by rfl, ?_⟩) ?_
                  rotate_left
                  · intro w hSw
                    (try dsimp only at hSw)
                    go_simp
                    try with_reducible rfl
                  try simp only [Act.put, List.setIfInBounds_toArray, List.set_cons_zero, List.set_cons_succ]
                  refine WT.take (i := 43) (v := ?_) rfl (by kernel_rfl) (by kernel_rfl) (by kernel_rfl) (by rfl) (by kernel_rfl) (fun _ _ _ h => h) (Or.inl ⟨by rfl, ?_⟩) ?_
                  rotate_left
                  · intro w hSw
                    (try dsimp only at hSw)
                    go_simp
                    try with_reducible rfl
                  try simp only [Act.put, List.setIfInBounds_toArray, List.set_cons_zero, List.set_cons_succ]
                  refine WT.take (i := 44) (v := ?_) rfl (by kernel_rfl) (by kernel_rfl) (by kernel_rfl) (by rfl) (by kernel_rfl) (fun _ _ _ h => h) (Or.inl ⟨by rfl, ?_⟩) ?_
                  rotate_left
                  · intro w hSw
                    (try dsimp only at hSw)
                    go_simp
                    try with_reducible rfl
                  try simp only [Act.put, List.setIfInBounds_toArray, List.set_cons_zero, List.set_cons_succ]
                  refine WT.take (i := 45) (v := ?_) rfl (by kernel_rfl) (by kernel_rfl) (by kernel_rfl) (by rfl) (by kernel_rfl) (fun _ _ _ h => h) (Or.inl ⟨by rfl, ?_⟩) ?_
                  rotate_left
                  · intro w hSw
                    (try dsimp only at hSw)
                    go_simp
                    try with_reducible rfl
                  try simp only [Act.put, List.setIfInBounds_toArray, List.set_cons_zero, List.set_cons_succ]
                  refine WT.ready (rs := [41]) (by kernel_rfl) (by simp) ?_
                  refine RT.cons rfl (by rfl) (fun K hK => ?_) RT.nil
                  go_simp
                  refine (HNB.out _ y0).mono ?_
                  rintro e w9 ⟨v9, rfl, hown9, x9⟩
                  obtain ⟨A9, c9, rfl, _⟩ := own_form hown9
                  have s1 := str_at (Bs.of_own hown9) c9
                  have y1 := y0.trans x9
                  clear hown9 x9
                  try go_wp2_with fail
                  refine hK.out _ _ (by first | (exact HSX.out _ y1) | (exact HSX.out _ y0)) ?_
                  clear hK K
                  refine WT.ready (rs := [42, 46]) (by kernel_rfl) (by simp) ?_
                  refine RT.cons rfl (by rfl) (fun K hK => ?_) (RT.cons rfl (by rfl) (fun K hK => ?_) RT.nil)
                  · as_aux_lemma =>
                      go_simp
                      refine hK.out _ _ (by first | (exact HSX.out _ y1) | (exact HSX.out _ y0)) ?_
                      clear hK K
                      refine WT.ready (rs := [46]) (by kernel_rfl) (by simp) ?_
                      refine RT.cons rfl (by rfl) (fun K hK => ?_) RT.nil
                      go_simp
                      refine (HRB.out _ y1).mono ?_
                      rintro e w11 ⟨A11, c11, rfl, hb11, rfl⟩
                      have s2 := str_at hb11 c11
                      clear hb11
                      try go_wp2_with fail
                      refine hK.out _ _ (by first | (exact HSX.out _ y1) | (exact HSX.out _ y0)) ?_
                      clear hK K
                      refine WT.ready (rs := [47]) (by kernel_rfl) (by simp) ?_
                      refine RT.cons rfl (by rfl) (fun K hK => ?_) RT.nil
                      go_simp
                      refine hK.out _ _ (by first | (exact HSX.out _ y1) | (exact HSX.out _ y0)) ?_
                      clear hK K
                      refine WT.take (i := 48) (v := ?_) rfl (by kernel_rfl) (by kernel_rfl) (by kernel_rfl) (by rfl) (by kernel_rfl) (fun _ _ _ h => h) (Or.inl ⟨by rfl, ?_⟩) ?_
                      rotate_left
                      · intro w hSw
                        (try dsimp only at hSw)
                        go_simp
                        try with_reducible rfl
                      try simp only [Act.put, List.setIfInBounds_toArray, List.set_cons_zero, List.set_cons_succ]
                      refine WT.last rfl (by kernel_rfl) (by kernel_rfl) (fun K hK => ?_)
                      go_simp
                      refine hK.out _ _ ?_
                      clear hK K
                      have HP9 := Lib.hid (HP8.out.ext y1)
                      go_wp2_with fail
                      go_roundw
                      case rel => exact ⟨j + 1, val_int (by omega), by omega, by omega, g', F2, x2, y2, rfl, HP9.out, HPP, HBD.out.mono (by omega)⟩
                      case measure => simp [intOf]; omega
                  · as_aux_lemma =>
                      go_simp
                      refine (HRB.out _ y1).mono ?_
                      rintro e w11 ⟨A11, c11, rfl, hb11, rfl⟩
                      have s2 := str_at hb11 c11
                      clear hb11
                      try go_wp2_with fail
                      refine hK.out _ _ (by first | (exact HSX.out _ y1) | (exact HSX.out _ y0)) ?_
                      clear hK K
                      refine WT.ready (rs := [42, 47]) (by kernel_rfl) (by simp) ?_
                      refine RT.cons rfl (by rfl) (fun K hK => ?_) (RT.cons rfl (by rfl) (fun K hK => ?_) RT.nil)
                      · as_aux_lemma =>
                          go_simp
                          refine hK.out _ _ (by first | (exact HSX.out _ y1) | (exact HSX.out _ y0)) ?_
                          clear hK K
                          refine WT.ready (rs := [47]) (by kernel_rfl) (by simp) ?_
                          refine RT.cons rfl (by rfl) (fun K hK => ?_) RT.nil
                          go_simp
                          refine hK.out _ _ (by first | (exact HSX.out _ y1) | (exact HSX.out _ y0)) ?_
                          clear hK K
                          refine WT.take (i := 48) (v := ?_) rfl (by kernel_rfl) (by kernel_rfl) (by kernel_rfl) (by rfl) (by kernel_rfl) (fun _ _ _ h => h) (Or.inl ⟨by rfl, ?_⟩) ?_
                          rotate_left
                          · intro w hSw
                            (try dsimp only at hSw)
                            go_simp
                            try with_reducible rfl
                          try simp only [Act.put, List.setIfInBounds_toArray, List.set_cons_zero, List.set_cons_succ]
                          refine WT.last rfl (by kernel_rfl) (by kernel_rfl) (fun K hK => ?_)
                          go_simp
                          refine hK.out _ _ ?_
                          clear hK K
                          have HP9 := Lib.hid (HP8.out.ext y1)
                          go_wp2_with fail
                          go_roundw
                          case rel => exact ⟨j + 1, val_int (by omega), by omega, by omega, g', F2, x2, y2, rfl, HP9.out, HPP, HBD.out.mono (by omega)⟩
                          case measure => simp [intOf]; omega
                      · as_aux_lemma =>
                          go_simp
                          refine hK.out _ _ (by first | (exact HSX.out _ y1) | (exact HSX.out _ y0)) ?_
                          clear hK K
                          refine WT.ready (rs := [42]) (by kernel_rfl) (by simp) ?_
                          refine RT.cons rfl (by rfl) (fun K hK => ?_) RT.nil
                          go_simp
                          refine hK.out _ _ (by first | (exact HSX.out _ y1) | (exact HSX.out _ y0)) ?_
                          clear hK K
                          refine WT.take (i := 48) (v := ?_) rfl (by kernel_rfl) (by kernel_rfl) (by kernel_rfl) (by rfl) (by kernel_rfl) (fun _ _ _ h => h) (Or.inl ⟨by rfl, ?_⟩) ?_
                          rotate_left
                          · intro w hSw
                            (try dsimp only at hSw)
                            go_simp
                            try with_reducible rfl
                          try simp only [Act.put, List.setIfInBounds_toArray, List.set_cons_zero, List.set_cons_succ]
                          refine WT.last rfl (by kernel_rfl) (by kernel_rfl) (fun K hK => ?_)
                          go_simp
                          refine hK.out _ _ ?_
                          clear hK K
                          have HP9 := Lib.hid (HP8.out.ext y1)
                          go_wp2_with fail
                          go_roundw
                          case rel => exact ⟨j + 1, val_int (by omega), by omega, by omega, g', F2, x2, y2, rfl, HP9.out, HPP, HBD.out.mono (by omega)⟩
                          case measure => simp [intOf]; omega
      · as_aux_lemma =>
          by_cases h1 : j < n
          · as_aux_lemma =>
              have g1 : (j : Int) < n := by omega
              have g2 : ¬ ((j : Int) < 40) := by omega
              have HPN := Lib.hid hPN
              clear hPN
              go_wp2_with fail
              go_loopw [21] (fun i wr => ∃ t : Nat, i = .int .i64 t ∧ t ≤ y.n ∧ PN w wr F g gy x y) (fun i _ => y.n - (intOf i).toNat)
              case atStart => exact ⟨0, rfl, by omega, HPN.out⟩
              case round =>
                as_aux_lemma =>
                  clear HPN
                  obtain ⟨t, rfl, ht, hP⟩ := hrel
                  obtain ⟨w8, rfl⟩ : ∃ w8, w8 = wr := ⟨_, rfl⟩
                  have HPN := Lib.hid hP
                  obtain ⟨d0, _⟩ := hP.rr.cells
                  have hfew := hP.rr.few
                  by_cases htn : t < y.n
                  · as_aux_lemma =>
                      have ht0 : (0 : Int) ≤ t := by omega
                      have ht1 : (t : Int) < y.n := by omega
                      have htl : t < y.l.length := by rw [hP.rr.len]; exact htn
                      have hyt := at_there htn htl
                      obtain ⟨b, off, hA, hc⟩ := hP.rr.at_ htn
                      have hby := hP.rr.bs (y := y.l[t]) (List.getElem_mem _)
                      have hat : x.at t = y.l[t].b := by rw [← NetV.at_p hP.nn, HP.out, at_p hP.rr.len, hyt]
                      have hnb := fun (V : World) (h : Ext w8 V) => net_Bytes F g x t V (hP.ext h).nn
                      simp only [hat] at hnb
                      generalize y.l[t] = z at *
                      unfold BSV.val at hc
                      rw [hA] at d0
                      have HS : Hid (∀ (V : World), Ext w8 V → (V.cell? ⟨gy, 0, none⟩ = some (.slice (some ⟨b, off, none⟩) y.n y.c) ∧ V.cell? ⟨b, off + t, none⟩ = some (.slice z.A z.len z.cap))) := Lib.hid fun V h => ⟨h.cell d0, h.cell hc⟩
                      have HNB := Lib.hid hnb
                      have HBY := Lib.hid (fun (V : World) (h : Ext w8 V) => str_at (hby.ext h) z.cap)
                      have HHA := Lib.hid hA
                      have y0 := (Ext.refl w8).drew
                      have s0 := HBY.out _ y0
                      clear hP hyt hby hat hnb hA htl
                      go_upto_region 51 with fail
                      refine WT.start (z := 12) (n := 13) rfl (fun V => V.cell? ⟨gy, 0, none⟩ = some (.slice (some ⟨b, off, none⟩) y.n y.c) ∧ V.cell? ⟨b, off + t, none⟩ = some (.slice z.A z.len z.cap) ∧ (convert 29 9 (.slice z.A z.len z.cap)).run Try.prog V = .ok (.string (bstr z.b)) V) (by kernel_rfl) (by first | (exact ⟨(HS.out _ y1).1, (HS.out _ y1).2, HBY.out _ y1⟩) | (exact ⟨(HS.out _ y0).1, (HS.out _ y0).2, HBY.out _ y0⟩)) ?_
                      simp only [List.replicate]
                      refine WT.take (i := 0) (v := ?_) rfl (by kernel_rfl) (by kernel_rfl) (by kernel_rfl) (by rfl) (by kernel_rfl) (fun _ _ _ h => h) (Or.inl ⟨by rfl, ?_⟩) ?_
                      rotate_left
                      · intro w hSw
                        (try dsimp only at hSw)
                        go_simp
                        try with_reducible rfl
                      try simp only [Act.put, List.setIfInBounds_toArray, List.set_cons_zero, List.set_cons_succ]
                      refine WT.take (i := 1) (v := ?_) rfl (by kernel_rfl) (by kernel_rfl) (by kernel_rfl) (by rfl) (by kernel_rfl) (fun _ _ _ h => h) (Or.inl ⟨by rfl, ?_⟩) ?_
                      rotate_left
                      · intro w hSw
                        (try dsimp only at hSw)
                        go_simp
                        try with_reducible rfl
                      try simp only [Act.put, List.setIfInBounds_toArray, List.set_cons_zero, List.set_cons_succ]
                      refine WT.take (i := 4) (v := ?_) rfl (by kernel_rfl) (by kernel_rfl) (by kernel_rfl) (by rfl) (by kernel_rfl) (fun _ _ _ h => h) (Or.inl ⟨by rfl, ?_⟩) ?_
                      rotate_left
                      · intro w hSw
                        (try dsimp only at hSw)
                        go_simp
                        try with_reducible rfl
                      try simp only [Act.put, List.setIfInBounds_toArray, List.set_cons_zero, List.set_cons_succ]
                      refine WT.take (i := 5) (v := ?_) rfl (by kernel_rfl) (by kernel_rfl) (by kernel_rfl) (by rfl) (by kernel_rfl) (fun _ _ _ h => h) (Or.inl ⟨by rfl, ?_⟩) ?_
                      rotate_left
                      · intro w hSw
                        (try dsimp only at hSw)
                        go_simp
                        try with_reducible rfl
                      try simp only [Act.put, List.setIfInBounds_toArray, List.set_cons_zero, List.set_cons_succ]
                      refine WT.take (i := 6) (v := ?_) rfl (by kernel_rfl) (by kernel_rfl) (by kernel_rfl) (by rfl) (by kernel_rfl) (fun _ _ _ h => h) (Or.inl ⟨by rfl, ?_⟩) ?_
                      rotate_left
                      · intro w hSw
                        (try dsimp only at hSw)
                        go_simp
                        try with_reducible rfl
                      try simp only [Act.put, List.setIfInBounds_toArray, List.set_cons_zero, List.set_cons_succ]
                      refine WT.take (i := 7) (v := ?_) rfl (by kernel_rfl) (by kernel_rfl) (by kernel_rfl) (by rfl) (by kernel_rfl) (fun _ _ _ h => h) (Or.inl ⟨by rfl, ?_⟩) ?_
                      rotate_left
                      · intro w hSw
                        (try dsimp only at hSw)
                        go_simp
                        try with_reducible rfl
                      try simp only [Act.put, List.setIfInBounds_toArray, List.set_cons_zero, List.set_cons_succ]
                      refine WT.take (i := 8) (v := ?_) rfl (by kernel_rfl) (by kernel_rfl) (by kernel_rfl) (by rfl) (by kernel_rfl) (fun _ _ _ h => h) (Or.inl ⟨by rfl, ?_⟩) ?_
                      rotate_left
                      · intro w hSw
                        (try dsimp only at hSw)
                        go_simp
                        try with_reducible rfl
                      try simp only [Act.put, List.setIfInBounds_toArray, List.set_cons_zero, List.set_cons_succ]
                      refine WT.take (i := 9) (v := ?_) rfl (by kernel_rfl) (by kernel_rfl) (by kernel_rfl) (by rfl) (by kernel_rfl) (fun _ _ _ h => h) (Or.inl ⟨by rfl, ?_⟩) ?_
                      rotate_left
                      · intro w hSw
                        (try dsimp only at hSw)
                        go_simp
                        try with_reducible rfl
                      try simp only [Act.put, List.setIfInBounds_toArray, List.set_cons_zero, List.set_cons_succ]
                      refine WT.take (i := 10) (v := ?_) rfl (by kernel_rfl) (by kernel_rfl) (by kernel_rfl) (by rfl) (by kernel_rfl) (fun _ _ _ h => h) (Or.inl ⟨by rfl, ?_⟩) ?_
                      rotate_left
                      · intro w hSw
                        (try dsimp only at hSw)
                        go_simp
                        try with_reducible rfl
                      try simp only [Act.put, List.setIfInBounds_toArray, List.set_cons_zero, List.set_cons_succ]
                      refine WT.take (i := 11) (v := ?_) rfl (by kernel_rfl) (by kernel_rfl) (by kernel_rfl) (by rfl) (by kernel_rfl) (fun _ _ _ h => h) (Or.inl ⟨by rfl, ?_⟩) ?_
                      rotate_left
                      · intro w hSw
                        (try dsimp only at hSw)
                        go_simp
                        try with_reducible rfl
                      try simp only [Act.put, List.setIfInBounds_toArray, List.set_cons_zero, List.set_cons_succ]
                      refine WT.ready (rs := [2]) (by kernel_rfl) (by simp) ?_
                      refine RT.cons rfl (by rfl) (fun K hK => ?_) RT.nil
                      go_simp
                      refine (HNB.out _ y0).mono ?_
                      rintro e w9 ⟨v9, rfl, hown9, x9⟩
                      obtain ⟨A9, c9, rfl, _⟩ := own_form hown9
                      have s1 := str_at (Bs.of_own hown9) c9
                      have y1 := y0.trans x9
                      clear hown9 x9
                      try go_wp2_with fail
                      refine hK.out _ _ (by first | (exact ⟨(HS.out _ y1).1, (HS.out _ y1).2, HBY.out _ y1⟩) | (exact ⟨(HS.out _ y0).1, (HS.out _ y0).2, HBY.out _ y0⟩)) ?_
                      clear hK K
                      refine WT.ready (rs := [3]) (by kernel_rfl) (by simp) ?_
                      refine RT.cons rfl (by rfl) (fun K hK => ?_) RT.nil
                      go_simp
                      refine hK.out _ _ (by first | (exact ⟨(HS.out _ y1).1, (HS.out _ y1).2, HBY.out _ y1⟩) | (exact ⟨(HS.out _ y0).1, (HS.out _ y0).2, HBY.out _ y0⟩)) ?_
                      clear hK K
                      refine WT.last rfl (by kernel_rfl) (by kernel_rfl) (fun K hK => ?_)
                      go_simp
                      refine hK.out _ _ ?_
                      clear hK K
                      have HP9 := Lib.hid (HPN.out.ext y1)
                      go_wp2_with fail
                      go_roundw
                      case rel => exact ⟨t + 1, val_int (by omega), by omega, HP9.out⟩
                      case measure => simp [intOf]; omega
                  · have ht1 : ¬ ((t : Int) < y.n) := by omega
                    go_wp2_with fail
                    go_ret
                    exact ⟨rfl, HPN.out.ex⟩
          · as_aux_lemma =>
              have g1 : ¬ ((j : Int) < n) := by omega
              have HPN := Lib.hid hPN
              clear hPN
              go_wp2_with fail
              go_loopw [21] (fun i wr => ∃ t : Nat, i = .int .i64 t ∧ t ≤ y.n ∧ PN w wr F g gy x y) (fun i _ => y.n - (intOf i).toNat)
              case atStart => exact ⟨0, rfl, by omega, HPN.out⟩
              case round =>
                as_aux_lemma =>
                  clear HPN
                  obtain ⟨t, rfl, ht, hP⟩ := hrel
                  obtain ⟨w8, rfl⟩ : ∃ w8, w8 = wr := ⟨_, rfl⟩
                  have HPN := Lib.hid hP
                  obtain ⟨d0, _⟩ := hP.rr.cells
                  have hfew := hP.rr.few
                  by_cases htn : t < y.n
                  · as_aux_lemma =>
                      have ht0 : (0 : Int) ≤ t := by omega
                      have ht1 : (t : Int) < y.n := by omega
                      have htl : t < y.l.length := by rw [hP.rr.len]; exact htn
                      have hyt := at_there htn htl
                      obtain ⟨b, off, hA, hc⟩ := hP.rr.at_ htn
                      have hby := hP.rr.bs (y := y.l[t]) (List.getElem_mem _)
                      have hat : x.at t = y.l[t].b := by rw [← NetV.at_p hP.nn, HP.out, at_p hP.rr.len, hyt]
                      have hnb := fun (V : World) (h : Ext w8 V) => net_Bytes F g x t V (hP.ext h).nn
                      simp only [hat] at hnb
                      generalize y.l[t] = z at *
                      unfold BSV.val at hc
                      rw [hA] at d0
                      have HS : Hid (∀ (V : World), Ext w8 V → (V.cell? ⟨gy, 0, none⟩ = some (.slice (some ⟨b, off, none⟩) y.n y.c) ∧ V.cell? ⟨b, off + t, none⟩ = some (.slice z.A z.len z.cap))) := Lib.hid fun V h => ⟨h.cell d0, h.cell hc⟩
                      have HNB := Lib.hid hnb
                      have HBY := Lib.hid (fun (V : World) (h : Ext w8 V) => str_at (hby.ext h) z.cap)
                      have HHA := Lib.hid hA
                      have y0 := (Ext.refl w8).drew
                      have s0 := HBY.out _ y0
                      clear hP hyt hby hat hnb hA htl
                      go_upto_region 51 with fail
                      refine WT.start (z := 12) (n := 13) rfl (fun V => V.cell? ⟨gy, 0, none⟩ = some (.slice (some ⟨b, off, none⟩) y.n y.c) ∧ V.cell? ⟨b, off + t, none⟩ = some (.slice z.A z.len z.cap) ∧ (convert 29 9 (.slice z.A z.len z.cap)).run Try.prog V = .ok (.string (bstr z.b)) V) (by kernel_rfl) (by first | (exact ⟨(HS.out _ y1).1, (HS.out _ y1).2, HBY.out _ y1⟩) | (exact ⟨(HS.out _ y0).1, (HS.out _ y0).2, HBY.out _ y0⟩)) ?_
                      simp only [List.replicate]
                      refine WT.take (i := 0) (v := ?_) rfl (by kernel_rfl) (by kernel_rfl) (by kernel_rfl) (by rfl) (by kernel_rfl) (fun _ _ _ h => h) (Or.inl ⟨by rfl, ?_⟩) ?_
                      rotate_left
                      · intro w hSw
                        (try dsimp only at hSw)
                        go_simp
                        try with_reducible rfl
                      try simp only [Act.put, List.setIfInBounds_toArray, List.set_cons_zero, List.set_cons_succ]
                      refine WT.take (i := 1) (v := ?_) rfl (by kernel_rfl) (by kernel_rfl) (by kernel_rfl) (by rfl) (by kernel_rfl) (fun _ _ _ h => h) (Or.inl ⟨by rfl, ?_⟩) ?_
                      rotate_left
                      · intro w hSw
                        (try dsimp only at hSw)
                        go_simp
                        try with_reducible rfl
                      try simp only [Act.put, List.setIfInBounds_toArray, List.set_cons_zero, List.set_cons_succ]
                      refine WT.take (i := 4) (v := ?_) rfl (by kernel_rfl) (by kernel_rfl) (by kernel_rfl) (by rfl) (by kernel_rfl) (fun _ _ _ h => h) (Or.inl ⟨by rfl, ?_⟩) ?_
                      rotate_left
                      · intro w hSw
                        (try dsimp only at hSw)
                        go_simp
                        try with_reducible rfl
                      try simp only [Act.put, List.setIfInBounds_toArray, List.set_cons_zero, List.set_cons_succ]
                      refine WT.take (i := 5) (v := ?_) rfl (by kernel_rfl) (by kernel_rfl) (by kernel_rfl) (by rfl) (by kernel_rfl) (fun _ _ _ h => h) (Or.inl ⟨by rfl, ?_⟩) ?_
                      rotate_left
                      · intro w hSw
                        (try dsimp only at hSw)
                        go_simp
                        try with_reducible rfl
                      try simp only [Act.put, List.setIfInBounds_toArray, List.set_cons_zero, List.set_cons_succ]
                      refine WT.take (i := 6) (v := ?_) rfl (by kernel_rfl) (by kernel_rfl) (by kernel_rfl) (by rfl) (by kernel_rfl) (fun _ _ _ h => h) (Or.inl ⟨by rfl, ?_⟩) ?_
                      rotate_left
                      · intro w hSw
                        (try dsimp only at hSw)
                        go_simp
                        try with_reducible rfl
                      try simp only [Act.put, List.setIfInBounds_toArray, List.set_cons_zero, List.set_cons_succ]
                      refine WT.take (i := 7) (v := ?_) rfl (by kernel_rfl) (by kernel_rfl) (by kernel_rfl) (by rfl) (by kernel_rfl) (fun _ _ _ h => h) (Or.inl ⟨by rfl, ?_⟩) ?_
                      rotate_left
                      · intro w hSw
                        (try dsimp only at hSw)
                        go_simp
                        try with_reducible rfl
                      try simp only [Act.put, List.setIfInBounds_toArray, List.set_cons_zero, List.set_cons_succ]
                      refine WT.take (i := 8) (v := ?_) rfl (by kernel_rfl) (by kernel_rfl) (by kernel_rfl) (by rfl) (by kernel_rfl) (fun _ _ _ h => h) (Or.inl ⟨by rfl, ?_⟩) ?_
                      rotate_left
                      · intro w hSw
                        (try dsimp only at hSw)
                        go_simp
                        try with_reducible rfl
                      try simp only [Act.put, List.setIfInBounds_toArray, List.set_cons_zero, List.set_cons_succ]
                      refine WT.take (i := 9) (v := ?_) rfl (by kernel_rfl) (by kernel_rfl) (by kernel_rfl) (by rfl) (by kernel_rfl) (fun _ _ _ h => h) (Or.inl ⟨by rfl, ?_⟩) ?_
                      rotate_left
                      · intro w hSw
                        (try dsimp only at hSw)
                        go_simp
                        try with_reducible rfl
                      try simp only [Act.put, List.setIfInBounds_toArray, List.set_cons_zero, List.set_cons_succ]
                      refine WT.take (i := 10) (v := ?_) rfl (by kernel_rfl) (by kernel_rfl) (by kernel_rfl) (by rfl) (by kernel_rfl) (fun _ _ _ h => h) (Or.inl ⟨by rfl, ?_⟩) ?_
                      rotate_left
                      · intro w hSw
                        (try dsimp only at hSw)
                        go_simp
                        try with_reducible rfl
                      try simp only [Act.put, List.setIfInBounds_toArray, List.set_cons_zero, List.set_cons_succ]
                      refine WT.take (i := 11) (v := ?_) rfl (by kernel_rfl) (by kernel_rfl) (by kernel_rfl) (by rfl) (by kernel_rfl) (fun _ _ _ h => h) (Or.inl ⟨by rfl, ?_⟩) ?_
                      rotate_left
                      · intro w hSw
                        (try dsimp only at hSw)
                        go_simp
                        try with_reducible rfl
                      try simp only [Act.put, List.setIfInBounds_toArray, List.set_cons_zero, List.set_cons_succ]
                      refine WT.ready (rs := [2]) (by kernel_rfl) (by simp) ?_
                      refine RT.cons rfl (by rfl) (fun K hK => ?_) RT.nil
                      go_simp
                      refine (HNB.out _ y0).mono ?_
                      rintro e w9 ⟨v9, rfl, hown9, x9⟩
                      obtain ⟨A9, c9, rfl, _⟩ := own_form hown9
                      have s1 := str_at (Bs.of_own hown9) c9
                      have y1 := y0.trans x9
                      clear hown9 x9
                      try go_wp2_with fail
                      refine hK.out _ _ (by first | (exact ⟨(HS.out _ y1).1, (HS.out _ y1).2, HBY.out _ y1⟩) | (exact ⟨(HS.out _ y0).1, (HS.out _ y0).2, HBY.out _ y0⟩)) ?_
                      clear hK K
                      refine WT.ready (rs := [3]) (by kernel_rfl) (by simp) ?_
                      refine RT.cons rfl (by rfl) (fun K hK => ?_) RT.nil
                      go_simp
                      refine hK.out _ _ (by first | (exact ⟨(HS.out _ y1).1, (HS.out _ y1).2, HBY.out _ y1⟩) | (exact ⟨(HS.out _ y0).1, (HS.out _ y0).2, HBY.out _ y0⟩)) ?_
                      clear hK K
                      refine WT.last rfl (by kernel_rfl) (by kernel_rfl) (fun K hK => ?_)
                      go_simp
                      refine hK.out _ _ ?_
                      clear hK K
                      have HP9 := Lib.hid (HPN.out.ext y1)
                      go_wp2_with fail
                      go_roundw
                      case rel => exact ⟨t + 1, val_int (by omega), by omega, HP9.out⟩
                      case measure => simp [intOf]; omega
                  · have ht1 : ¬ ((t : Int) < y.n) := by omega
                    go_wp2_with fail
                    go_ret
                    exact ⟨rfl, HPN.out.ex⟩
end Go.Proofs.Ytcoaofaofmbfbaa
