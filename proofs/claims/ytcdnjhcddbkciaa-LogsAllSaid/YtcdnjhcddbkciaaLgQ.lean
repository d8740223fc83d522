/- The walk of the law LogsAll. (Printed by wip/tools/lgall.py.) -/
import Derived.Test.YtcdnjhcddbkciaaLgE
import Derived.Test.YtcdnjhcddbkciaaLgF
import Derived.Test.YtcdnjhcddbkciaaElO
import Derived.Test.YtcdnjhcddbkciaaLgO
import Derived.Test.YtcdnjhcddbkciaaLgP
import Derived.Test.YtcdnjhcddbkciaaLgJ
import Derived.Deep.RegionHeld3
namespace Go.Proofs.Ytcdnjhcddbkciaa
open Go.RowKit

theorem mergeB_le (l : List EV) (b : Int) (add : List EV) : (mergeB l b add).2.length ≤ add.length := by
  unfold mergeB
  by_cases h : b < 0 ∨ (l.length : Int) < b
  · rw [if_pos h]; simp
  · rw [if_neg h]
    obtain ⟨i, h1, h2, h3, h4⟩ := mrgB_cases add (l.drop b.toNat) b.toNat
    rcases h4 with ⟨_, k⟩ | ⟨_, _, k⟩ | ⟨_, _, k⟩ <;> rw [k] <;> simp
theorem behB_le (l : List EV) (b q : Int) : (behB l b q).length ≤ l.length := by
  unfold behB
  by_cases h : b < 0 ∨ (l.length : Int) < b ∨ q < 1
  · rw [if_pos h]; simp
  · rw [if_neg h, List.length_take, List.length_drop]; omega
theorem behB_mem (l : List EV) (b q : Int) : ∀ f ∈ behB l b q, f ∈ l := by
  unfold behB
  by_cases h : b < 0 ∨ (l.length : Int) < b ∨ q < 1
  · rw [if_pos h]; simp
  · rw [if_neg h]; exact fun f hf => List.mem_of_mem_drop (List.mem_of_mem_take hf)

set_option maxRecDepth 100000 in
set_option maxHeartbeats 6400000 in
theorem law_LogsAll (A : Option Addr) (n c : Nat) (l : List EV) (A' : Option Addr) (n' c' : Nat) (l' : List EV) (xa xb : Int) (L : Option Addr) (nl cl : Nat) (ll : List Int) (w : World) (h : Es w A n l) (hnc : n ≤ c) (hcm : c ≤ maxLen) (h' : Es w A' n' l') (hnc' : n' ≤ c') (hcm' : c' ≤ maxLen) (hi : Is w L nl ll) (hic : nl ≤ cl) :
    Calls Try.prog 8 #[.slice A n c, .slice A' n' c', .agg #[.int .i64 xa, .int .i64 xb, .slice L nl cl]] w fun e w' => e = .returned (.bool true) ∧ Ext w w' := by
  go_enter Try.func8, Try.ntmps8
  simp only [List.append_eq, List.cons_append, List.nil_append]
  go_wp2_with fail
  refine (law17_shown _).mono ?_
  rintro e w1 ⟨rfl, x1'⟩
  have x1 : Ext w w1 := ((Ext.refl w).alloc (.cells #[.int .i64 xa, .int .i64 xb, .slice L nl cl] 42)).trans x1'
  have hB1 := (Blk.new w 42 [.int .i64 xa, .int .i64 xb, .slice L nl cl]).ext x1'
  clear x1'
  have HL := Lib.hid (fun (W : World) (x : Ext w W) => law17_cut A n c l W (h.ext x) hnc hcm)
  go_wp2_with fail
  refine (HL.out _ x1).mono ?_
  clear HL
  rintro e Wt ⟨v, rfl, own_t0, x2⟩
  have xt := x1.trans x2
  have hB2 := hB1.ext x2
  obtain ⟨A_t, c_t, rfl, cc_t, cm_t⟩ := own_form17 own_t0
  have own_t := own_to (base' := w.heap.size) own_t0 x1.size rfl rfl
  have et := Es.of_own own_t (cutL_ok (fun f hf => (h.ext xt).ok f hf))
  have e_t := et
  have ht_t : min 40 n ≤ 40 := by omega
  clear et own_t0 x2
  have ho_t : cutL 40 100 l = cutL 40 100 l := rfl
  generalize cutL 40 100 l = t at *
  generalize min 40 n = m_t at *
  clear ho_t
  have HL := Lib.hid (fun (W : World) (x : Ext w W) => law17_cut A' n' c' l' W (h'.ext x) hnc' hcm')
  go_wp2_with fail
  refine (HL.out _ xt).mono ?_
  clear HL
  rintro e Wb ⟨v, rfl, own_b0, x2⟩
  have xb' := xt.trans x2
  have hB := hB2.ext x2
  obtain ⟨A_b, c_b, rfl, cc_b, cm_b⟩ := own_form17 own_b0
  have own_b := own_to (base' := w.heap.size) own_b0 xt.size rfl rfl
  have et := Es.of_own own_b (cutL_ok (fun f hf => (h'.ext xb').ok f hf))
  replace e_t := e_t.ext x2
  have own_t' := own_ext own_t x2
  clear own_t
  have own_t := own_t'
  clear own_t'
  have e_b := et
  have ht_b : min 40 n' ≤ 40 := by omega
  clear et own_b0 x2
  have ho_b : cutL 40 100 l' = cutL 40 100 l' := rfl
  generalize cutL 40 100 l' = b at *
  generalize min 40 n' = m_b at *
  clear ho_b
  have xW := xb'
  generalize Wb = W at *
  have hlt := e_t.len
  have hlb := e_b.len
  have d0 := hB.cell 0
  have d1 := hB.cell 1
  have d2 := hB.cell 2
  simp only [List.getElem?_cons_zero, List.getElem?_cons_succ] at d0 d1 d2
  go_upto_if 28 with fail
  go_cut [8] (fun v wx => v = .slice L (min 20 nl) cl ∧ wx = W)
  case first =>
    clear d0 d1 d2
    by_cases hn : 20 < nl
    · have q1 := dec_t (show (20 : Int) < nl by omega)
      have q2 := dec_t hn
      have hc : (20 : Int) ≤ cl := by omega
      have hm : min 20 nl = 20 := by omega
      go_wp2_with fail
      go_meet
      exact ⟨by rw [hm], rfl⟩
    · have q1 := dec_f (show ¬ (20 : Int) < nl by omega)
      have q2 := dec_f hn
      have hm : min 20 nl = nl := by omega
      go_wp2_with fail
      go_meet
      exact ⟨by rw [hm], rfl⟩
  case rest =>
    obtain ⟨rfl, rfl⟩ := hcut
    have i8 : Is wc L (min 20 nl) (ll.take (min 20 nl)) := Is.upto (hi.ext xW) (by omega)
    have hm20 : min 20 nl ≤ 20 := by omega
    generalize ll.take (min 20 nl) = l8 at *
    generalize min 20 nl = n8 at *
    have HD : Hid (∀ V, Ext wc V → V.cell? ⟨w.heap.size, 0, none⟩ = some (.int .i64 xa) ∧ V.cell? ⟨w.heap.size, 1, none⟩ = some (.int .i64 xb)) := Lib.hid (fun V y => ⟨y.cell d0, y.cell d1⟩)
    have PL := Lib.hid (fun (V : World) (y : Ext wc V) => logs_Last A_t m_t c_t t V (e_t.ext y) (by omega))
    have PL2 := Lib.hid (fun (V : World) (y : Ext wc V) => ref17_Last A_t m_t c_t t V (e_t.ext y) (by omega))
    have PG := Lib.hid (fun (V : World) (y : Ext wc V) => logs_Merge A_t m_t c_t t xa A_b m_b c_b b V (e_t.ext y) (e_b.ext y) (by omega) (by omega) cc_t cc_b)
    have PG2 := Lib.hid (fun (V : World) (y : Ext wc V) => ref17_Merge A_t m_t c_t t xa A_b m_b c_b b V (e_t.ext y) (e_b.ext y) (by omega) (by omega) cc_b)
    have PB := Lib.hid (fun (V : World) (y : Ext wc V) => logs_Behind A_t m_t c_t t xa xb V (e_t.ext y) (by omega) cc_t)
    have PB2 := Lib.hid (fun (V : World) (y : Ext wc V) => ref17_Behind A_t m_t c_t t xa xb V (e_t.ext y) (by omega))
    have PT := Lib.hid (fun (V : World) (y : Ext wc V) => logs_Term A_t m_t c_t t xa V (e_t.ext y) (by omega))
    have PT2 := Lib.hid (fun (V : World) (y : Ext wc V) => ref17_Term A_t m_t c_t t xa V (e_t.ext y) (by omega))
    have PF := Lib.hid (fun (V : World) (y : Ext wc V) => logs_Fresh A_t m_t c_t t xa xb V (e_t.ext y) (by omega))
    have PF2 := Lib.hid (fun (V : World) (y : Ext wc V) => ref17_Fresh A_t m_t c_t t xa xb V (e_t.ext y) (by omega))
    have PM := Lib.hid (fun (V : World) (y : Ext wc V) => logs_Match A_t m_t c_t t xa xb V (e_t.ext y) (by omega))
    have PM2 := Lib.hid (fun (V : World) (y : Ext wc V) => ref17_Match A_t m_t c_t t xa xb V (e_t.ext y) (by omega))
    have PJ := Lib.hid (fun (V : World) (y : Ext wc V) => logs_Major L n8 cl l8 V (i8.ext y) (by omega))
    have PJ2 := Lib.hid (fun (V : World) (y : Ext wc V) => ref17_Major L n8 cl l8 V (i8.ext y) (by omega))
    have hg : (mergeB t xa b).2.length ≤ 40 := by have := mergeB_le t xa b; omega
    have hh : (behB t xa xb).length ≤ 40 := by have := behB_le t xa xb; omega
    have HBO : Hid (∀ f ∈ behB t xa xb, f.Ok wc) := Lib.hid (fun f hf => e_t.ok f (behB_mem t xa xb f hf))
    generalize mergeB t xa b = mg at *
    generalize behB t xa xb = bh at *
    generalize freshB t xa xb = fr at *
    generalize (termB t xa == xb) = ma at *
    generalize termB t xa = te at *
    generalize majorB l8 = mj at *
    generalize lastT t = la at *
    obtain ⟨mg1, mg2⟩ := mg
    dsimp only at PG PG2 hg
    generalize hgl : mg2.length = gl at *
    generalize hbl : bh.length = bl at *
    have HGL := Lib.hid hgl
    have HBL := Lib.hid hbl
    clear hgl hbl i8 e_t e_b hi h h' own_t own_b hlt hlb hB hB1 hB2 d2
    go_wp2_with fail
    refine (PL.out _ (Ext.refl _)).mono ?_
    rintro e w3 ⟨rfl, y3⟩
    go_wp2_with fail
    refine (PL2.out _ y3).mono ?_
    rintro e w4 ⟨rfl, y4'⟩
    have y4 := y3.trans y4'
    clear d0 d1 PL PL2 y4'
    obtain ⟨d0, d1⟩ := HD.out _ y4
    go_wp2_with fail
    refine (PG.out _ y4).mono ?_
    rintro e w5 ⟨v5, rfl, hown5, y5'⟩
    obtain ⟨A5, c5, rfl, _⟩ := own_form hown5
    have y5 := y4.trans y5'
    clear d0 d1 PG y5'
    obtain ⟨d0, d1⟩ := HD.out _ y5
    go_wp2_with fail
    refine (PG2.out _ y5).mono ?_
    rintro e w6 ⟨A6, n6, c6, rfl, e6, y6'⟩
    have y6 := y5.trans y6'
    have hn6 := e6.len
    rw [HGL.out] at hn6
    subst hn6
    have e5 := Es.of_own (own_ext hown5 y6') e6.ok
    have PS := Lib.hid (ref11_SameLog A5 A6 gl c5 c6 mg2 mg2 w6 e5 e6 rfl (by omega))
    clear d0 d1 PG2 y6' hown5 e5 e6
    go_wp2_with fail
    refine PS.out.mono ?_
    rintro e w7 ⟨rfl, y7'⟩
    have y7 := y6.trans y7'
    clear PS y7'
    obtain ⟨d0, d1⟩ := HD.out _ y7
    have y7d := y7.drew
    go_upto_region 12 with fail
    go_region_held3 (fun w' => w'.cell? ⟨w.heap.size, 0, none⟩ = some (.int .i64 xa) ∧ w'.cell? ⟨w.heap.size, 1, none⟩ = some (.int .i64 xb))
      (first | (exact HD.out _ y10) | (exact HD.out _ y9) | (exact HD.out _ y8) | (exact HD.out _ y7d) | go_keep)
      (first
        | (go_at_call 22; refine (PB.out _ y7d).mono ?_; rintro e w8 ⟨v8, rfl, hown8, y8'⟩; obtain ⟨A8, c8, rfl, _⟩ := own_form hown8; have y8 := y7d.trans y8'; clear y8')
        | (go_at_call 31; refine (PB2.out _ y8).mono ?_; rintro e w9 ⟨v9, rfl, hown9, y9'⟩; obtain ⟨A9, c9, rfl, _⟩ := own_form hown9; have y9 := y8.trans y9')
        | (go_at_call 23; refine (ref11_SameLog A8 A9 bl c8 c9 bh bh w9 (Es.of_own (own_ext hown8 y9') (fun f hf => (HBO.out f hf).ext y9)) (Es.of_own hown9 (fun f hf => (HBO.out f hf).ext y9)) rfl (by omega)).mono ?_; rintro e w10 ⟨rfl, y10'⟩; have y10 := y9.trans y10'; clear y10'))
    clear PB PB2 HBO d0 d1
    obtain ⟨d0, d1⟩ := HD.out _ y10
    have z0 := y10.drew
    go_upto_region 13 with fail
    go_region_held3 (fun w' => w'.cell? ⟨w.heap.size, 0, none⟩ = some (.int .i64 xa) ∧ w'.cell? ⟨w.heap.size, 1, none⟩ = some (.int .i64 xb))
      (first | (exact HD.out _ z4) | (exact HD.out _ z3) | (exact HD.out _ z2) | (exact HD.out _ z1) | (exact HD.out _ z0) | go_keep)
      (first
        | (go_at_call 25; refine (PT.out _ z0).mono ?_; rintro e V ⟨rfl, rfl⟩)
        | (go_at_call 32; refine (PT2.out _ z0).mono ?_; rintro e V ⟨rfl, rfl⟩)
        | (go_at_call 27; refine (PF.out _ z0).mono ?_; rintro e Vz1 ⟨rfl, qz1⟩; have z1 := z0.trans qz1; clear qz1)
        | (go_at_call 33; refine (PF2.out _ z1).mono ?_; rintro e Vz2 ⟨rfl, qz2⟩; have z2 := z1.trans qz2; clear qz2)
        | (go_at_call 26; refine (PM.out _ z2).mono ?_; rintro e V ⟨rfl, rfl⟩)
        | (go_at_call 34; refine (PM2.out _ z2).mono ?_; rintro e V ⟨rfl, rfl⟩)
        | (go_at_call 20; refine (PJ.out _ z2).mono ?_; rintro e Vz3 ⟨rfl, qz3⟩; have z3 := z2.trans qz3; clear qz3)
        | (go_at_call 35; refine (PJ2.out _ z3).mono ?_; rintro e Vz4 ⟨rfl, qz4⟩; have z4 := z3.trans qz4; clear qz4))
    go_wp2
    go_ret
    exact ⟨rfl, xW.trans z4⟩
end Go.Proofs.Ytcdnjhcddbkciaa
