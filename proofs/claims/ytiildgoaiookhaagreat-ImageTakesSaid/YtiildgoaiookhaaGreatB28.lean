/- Words and walks that the last text of this claim stands on: In6. No condition. -/
import Derived.Test.YtiildgoaiookhaaGreatB26
import Derived.Test.YtiildgoaiookhaaGreatB21
import Derived.Test.YtiildgoaiookhaaGreatB20
import Derived.Test.YtiildgoaiookhaaGreatB27
/- The walk of the law ImageTakes. (Printed by wip/tools/imtakes.py.) -/
namespace Go.Proofs.YtiildgoaiookhaaGreat
open Go.RowKit

set_option maxRecDepth 100000 in
set_option maxHeartbeats 3200000 in
theorem law_ImageTakes (A : Option Addr) (n c : Nat) (b : List UInt8) (v : Int) (w : World) (hb : Bs w A n b) (hnc : n ≤ c) (hcm : c ≤ maxLen) :
    Calls Tryz.prog 3 #[.slice A n c, .int .i64 v] w fun e w' => e = .returned (.bool true) ∧ Ext w w' := by
  have hb' := hb.upto (hi := min n 17000) (by omega)
  have hN : min n 17000 ≤ 17000 := by omega
  have hNc : min n 17000 ≤ c := by omega
  have HSH := Lib.hid (fun W => law10_short A n c W hnc hcm)
  generalize b.take (min n 17000) = B at *
  generalize min n 17000 = N at *
  clear hb hnc
  go_enter Tryz.func3, Tryz.ntmps3
  go_wp2_with fail
  refine (law10_shown _).mono ?_
  rintro e w1 ⟨rfl, x1⟩
  go_wp2_with fail
  refine (HSH.out _).mono ?_
  rintro e w2 ⟨rfl, rfl⟩
  clear HSH
  have hB1 := hb'.ext x1
  have hemp := own_empty w1 5 1
  have hlB := hB1.len
  go_upto_region 3 with fail
  go_wp2_with (at_builtin; refine wpList_app bytesT (by omega) _ rfl rfl rfl hemp rfl (Rd.ext hB1 ((Ext.refl w1).alloc _)) (bvs_one B) (by unfold maxLen; omega) (by omega) (by simp) ?_; intro v3 w3 hown3 hg3 hat3; simp only [Nat.zero_add, List.nil_append] at hown3; obtain ⟨A3, c3, rfl, hc3⟩ := own_form hown3; have x3 := Below.app ((Ext.refl w1).alloc _) hg3 (by simp) hemp (Nat.le_refl _))
  have HB3 := Lib.hid (show Bs w3 A3 N B from Rd.of_own hown3)
  have HX3 : Hid (Ext w w3) := Lib.hid (x1.trans x3)
  have HBB := Lib.hid (hB1.ext x3)
  have HTK := Lib.hid (image_Take v A3 N c3 B w3 HB3.out (by omega) hc3)
  have HTR := Lib.hid (fun (W : World) (h : Ext w3 W) => ref10_Take v A N c B W (HBB.out.ext h) (by omega) hNc)
  unfold KTakePost KV.val XV.val at HTK HTR
  clear hown3 hg3 hat3 hemp hB1 x3 hb' HB3 HBB x1
  refine HTK.out.mono ?_
  rintro e w4 ⟨s, x, code, rfl, hsok, hxok, hsf, hxf, hkt, x4⟩
  clear HTK
  go_upto_region 4 with fail
  have hO1 := (Blk.new w4 29 [.int .i64 s.ver, .int .i64 s.next, .int .i64 s.keep, .int .i64 s.quota, .slice s.A1 s.n1 s.c1, .slice s.A2 s.n2 s.c2, .slice s.A3 s.n3 s.c3]).alloc (.cells #[.slice x.A1 x.n1 x.c1, .slice x.A2 x.n2 x.c2] 33)
  have hO2 := Blk.new (w4.alloc (.cells #[.int .i64 s.ver, .int .i64 s.next, .int .i64 s.keep, .int .i64 s.quota, .slice s.A1 s.n1 s.c1, .slice s.A2 s.n2 s.c2, .slice s.A3 s.n3 s.c3] 29)) 33 [.slice x.A1 x.n1 x.c1, .slice x.A2 x.n2 x.c2]
  rw [show (w4.alloc (.cells #[.int .i64 s.ver, .int .i64 s.next, .int .i64 s.keep, .int .i64 s.quota, .slice s.A1 s.n1 s.c1, .slice s.A2 s.n2 s.c2, .slice s.A3 s.n3 s.c3] 29)).heap.size = w4.heap.size + 1 by simp] at hO2
  have xb : Ext w4 ((w4.alloc (.cells #[.int .i64 s.ver, .int .i64 s.next, .int .i64 s.keep, .int .i64 s.quota, .slice s.A1 s.n1 s.c1, .slice s.A2 s.n2 s.c2, .slice s.A3 s.n3 s.c3] 29)).alloc (.cells #[.slice x.A1 x.n1 x.c1, .slice x.A2 x.n2 x.c2] 33)) := ((Ext.refl w4).alloc _).alloc _
  generalize (w4.alloc (.cells #[.int .i64 s.ver, .int .i64 s.next, .int .i64 s.keep, .int .i64 s.quota, .slice s.A1 s.n1 s.c1, .slice s.A2 s.n2 s.c2, .slice s.A3 s.n3 s.c3] 29)).alloc (.cells #[.slice x.A1 x.n1 x.c1, .slice x.A2 x.n2 x.c2] 33) = w5 at *
  generalize w4.heap.size = g4 at *
  have hs5 := hsok.ext xb
  have hx5 := hxok.ext xb
  have HX5 := Lib.hid ((HX3.out.trans x4).trans xb)
  have HT5 := Lib.hid (HTR.out w5 (x4.trans xb))
  have HS5 := Lib.hid (And.intro hs5 hx5)
  have HF5 := Lib.hid (And.intro hsf hxf)
  have HK5 := Lib.hid hkt
  have HC1 := Lib.hid (fun (V : World) (h : Ext w5 V) (i : Nat) => (hO1.ext h).cell i)
  have HC2 := Lib.hid (fun (V : World) (h : Ext w5 V) (i : Nat) => (hO2.ext h).cell i)
  clear hsok hxok hsf hxf hkt x4 xb hs5 hx5 hO1 hO2 HX3 HTR
  go_wp2_with fail
  refine HT5.out.mono ?_
  rintro e w6 ⟨t, y, code2, rfl, htok, hyok, htf, hyf, hkt2, x6⟩
  obtain ⟨hcc, hk1, hk2⟩ := ktaken_same HK5.out hkt2
  subst hcc
  clear HT5 HK5 hkt2
  go_upto_region 5 with fail
  have hP1 := (Blk.new w6 29 [.int .i64 t.ver, .int .i64 t.next, .int .i64 t.keep, .int .i64 t.quota, .slice t.A1 t.n1 t.c1, .slice t.A2 t.n2 t.c2, .slice t.A3 t.n3 t.c3]).alloc (.cells #[.slice y.A1 y.n1 y.c1, .slice y.A2 y.n2 y.c2] 33)
  have hP2 := Blk.new (w6.alloc (.cells #[.int .i64 t.ver, .int .i64 t.next, .int .i64 t.keep, .int .i64 t.quota, .slice t.A1 t.n1 t.c1, .slice t.A2 t.n2 t.c2, .slice t.A3 t.n3 t.c3] 29)) 33 [.slice y.A1 y.n1 y.c1, .slice y.A2 y.n2 y.c2]
  rw [show (w6.alloc (.cells #[.int .i64 t.ver, .int .i64 t.next, .int .i64 t.keep, .int .i64 t.quota, .slice t.A1 t.n1 t.c1, .slice t.A2 t.n2 t.c2, .slice t.A3 t.n3 t.c3] 29)).heap.size = w6.heap.size + 1 by simp] at hP2
  have xb : Ext w6 ((w6.alloc (.cells #[.int .i64 t.ver, .int .i64 t.next, .int .i64 t.keep, .int .i64 t.quota, .slice t.A1 t.n1 t.c1, .slice t.A2 t.n2 t.c2, .slice t.A3 t.n3 t.c3] 29)).alloc (.cells #[.slice y.A1 y.n1 y.c1, .slice y.A2 y.n2 y.c2] 33)) := ((Ext.refl w6).alloc _).alloc _
  generalize (w6.alloc (.cells #[.int .i64 t.ver, .int .i64 t.next, .int .i64 t.keep, .int .i64 t.quota, .slice t.A1 t.n1 t.c1, .slice t.A2 t.n2 t.c2, .slice t.A3 t.n3 t.c3] 29)).alloc (.cells #[.slice y.A1 y.n1 y.c1, .slice y.A2 y.n2 y.c2] 33) = w7 at *
  generalize w6.heap.size = g6 at *
  have ht7 := htok.ext xb
  have hy7 := hyok.ext xb
  have x7 := x6.trans xb
  have HX7 := Lib.hid (HX5.out.trans x7)
  have HSM := Lib.hid (ref07_Same s t true hk1 w7 (HS5.out.1.ext x7) ht7 HF5.out.1 htf)
  have HSR := Lib.hid (fun (W : World) (h : Ext w7 W) => ref10_SameRest x y true hk2 W ((HS5.out.2.ext x7).ext h) (hy7.ext h) HF5.out.2 hyf)
  unfold KV.val at HSM
  unfold XV.val at HSR
  have HP1 := Lib.hid (fun (i : Nat) => hP1.cell i)
  have HP2 := Lib.hid (fun (V : World) (h : Ext w7 V) (i : Nat) => (hP2.ext h).cell i)
  have HD2 := Lib.hid (fun (V : World) (h : Ext w7 V) (i : Nat) => HC2.out V (x7.trans h) i)
  have d0 := HC1.out _ x7 0
  have d1 := HC1.out _ x7 1
  have d2 := HC1.out _ x7 2
  have d3 := HC1.out _ x7 3
  have d4 := HC1.out _ x7 4
  have d5 := HC1.out _ x7 5
  have d6 := HC1.out _ x7 6
  simp only [List.getElem?_cons_zero, List.getElem?_cons_succ] at d0 d1 d2 d3 d4 d5 d6
  have f0 := HP1.out 0
  have f1 := HP1.out 1
  have f2 := HP1.out 2
  have f3 := HP1.out 3
  have f4 := HP1.out 4
  have f5 := HP1.out 5
  have f6 := HP1.out 6
  simp only [List.getElem?_cons_zero, List.getElem?_cons_succ] at f0 f1 f2 f3 f4 f5 f6
  clear htok hyok htf hyf hk1 hk2 x6 xb ht7 hy7 x7 hP1 hP2 HX5 HS5 HF5 HC1 HC2 HP1
  go_wp2_with fail
  refine HSM.out.mono ?_
  rintro e w8 ⟨rfl, x8⟩
  clear HSM d0 d1 d2 d3 d4 d5 d6 f0 f1 f2 f3 f4 f5 f6
  have d0 := HD2.out _ x8 0
  have d1 := HD2.out _ x8 1
  simp only [List.getElem?_cons_zero, List.getElem?_cons_succ] at d0 d1
  have f0 := HP2.out _ x8 0
  have f1 := HP2.out _ x8 1
  simp only [List.getElem?_cons_zero, List.getElem?_cons_succ] at f0 f1
  have HS8 := Lib.hid (HSR.out w8 x8)
  have HX8 := Lib.hid (HX7.out.trans x8)
  clear HSR HX7 HD2 HP2 x8
  go_upto_region 6 with fail
  go_wp2_with fail
  refine HS8.out.mono ?_
  rintro e w9 ⟨rfl, x9⟩
  have HX9 := Lib.hid (HX8.out.trans x9)
  clear HS8 HX8 x9 d0 d1 f0 f1
  go_wp2_with fail
  go_ret
  exact ⟨rfl, HX9.out⟩
end Go.Proofs.YtiildgoaiookhaaGreat
