/- Words and walks that the last text of this claim stands on: Im3. No condition. -/
import Derived.Test.YtiildgoaiookhaaB21
import Derived.Test.YtiildgoaiookhaaB20
/- The walk of coracleref10.SameRest. -/
namespace Go.Proofs.Ytiildgoaiookhaa
open Go.RowKit

theorem restEq_no {m n : List (List FV)} {a b : List FV} {j : Nat} (h : fsEq (ofM m j) (ofM n j) = false) (hj : j < max m.length n.length) : restEq m n a b = false := by
  unfold restEq
  rw [Bool.and_eq_false_iff]
  right
  rw [List.all_eq_false]
  exact ⟨j, List.mem_range.2 hj, by rw [h]; simp⟩
theorem restEq_yes {m n : List (List FV)} {a b : List FV} (h0 : fsEq a b = true) (h : ∀ j, j < max m.length n.length → fsEq (ofM m j) (ofM n j) = true) : restEq m n a b = true := by
  unfold restEq
  rw [h0, Bool.true_and, List.all_eq_true]
  exact fun j hj => h j (List.mem_range.1 hj)
set_option maxRecDepth 100000 in
set_option maxHeartbeats 3200000 in
theorem ref10_SameRest (x y : XV) (b : Bool) (hb : restEq x.more y.more x.top y.top = b) (w : World) (hx : x.Ok w) (hy : y.Ok w) (fx : x.Few) (fy : y.Few) :
    Calls Try.prog 40 #[x.val, y.val] w fun e w' => e = .returned (.bool b) ∧ Ext w w' := by
  have hmx : x.more.length = x.n2 := by unfold XV.more; rw [List.length_map]; exact hx.t2.len
  have hmy : y.more.length = y.n2 := by unfold XV.more; rw [List.length_map]; exact hy.t2.len
  have hx2 := fx.n2
  have hy2 := fy.n2
  have HNO := Lib.hid (fun j (h : fsEq (ofM x.more j) (ofM y.more j) = false) (hj : j < max x.n2 y.n2) => hb.symm.trans (restEq_no (a := x.top) (b := y.top) h (by rw [hmx, hmy]; exact hj)))
  have HNT : Hid (fsEq x.top y.top = false → b = false) := Lib.hid (fun h => by rw [← hb]; unfold restEq; rw [h]; rfl)
  have HYE := Lib.hid (fun (h0 : fsEq x.top y.top = true) (h : ∀ j, j < max x.n2 y.n2 → fsEq (ofM x.more j) (ofM y.more j) = true) => hb.symm.trans (restEq_yes h0 (by rw [hmx, hmy]; exact h)))
  have HTS := Lib.hid (fun (q : Bool) (hq : fsEq x.top y.top = q) (W : World) (h : Ext w W) => ref03_SameB x.A1 y.A1 x.n1 y.n1 x.c1 y.c1 x.top y.top q hq W (hx.t1.ext h) (hy.t1.ext h) (by have := fx.n1; omega) (by have := fy.n1; omega))
  have HOX := Lib.hid (fun (j : Nat) (W : World) (h : Ext w W) => ref10_Of x j W (hx.ext h) fx)
  have HOY := Lib.hid (fun (j : Nat) (W : World) (h : Ext w W) => ref10_Of y j W (hy.ext h) fy)
  have hBx := (Blk.new w 51 [.slice x.A1 x.n1 x.c1, .slice x.A2 x.n2 x.c2]).alloc (.cells #[.slice y.A1 y.n1 y.c1, .slice y.A2 y.n2 y.c2] 51)
  have hBy := Blk.new (w.alloc (.cells #[.slice x.A1 x.n1 x.c1, .slice x.A2 x.n2 x.c2] 51)) 51 [.slice y.A1 y.n1 y.c1, .slice y.A2 y.n2 y.c2]
  have xw : Ext w ((w.alloc (.cells #[.slice x.A1 x.n1 x.c1, .slice x.A2 x.n2 x.c2] 51)).alloc (.cells #[.slice y.A1 y.n1 y.c1, .slice y.A2 y.n2 y.c2] 51)) := ((Ext.refl w).alloc _).alloc _
  rw [show (w.alloc (.cells #[.slice x.A1 x.n1 x.c1, .slice x.A2 x.n2 x.c2] 51)).heap.size = w.heap.size + 1 by simp] at hBy
  unfold OfPost at HOX HOY
  unfold XV.val at HOX HOY ⊢
  clear hx hy fx fy hb hmx hmy
  go_enter Try.func40, Try.ntmps40
  go_upto_region 1 with fail
  generalize ((w.alloc (.cells #[.slice x.A1 x.n1 x.c1, .slice x.A2 x.n2 x.c2] 51)).alloc (.cells #[.slice y.A1 y.n1 y.c1, .slice y.A2 y.n2 y.c2] 51)) = W0 at *
  have x0 := hBx.cell 0
  have y0 := hBy.cell 0
  simp only [List.getElem?_cons_zero] at x0 y0
  rcases ht : fsEq x.top y.top with _ | _
  case false =>
    have HT := Lib.hid (HTS.out false ht W0 xw)
    have hbf : b = false := HNT.out ht
    subst hbf
    clear ht HTS hBx hBy HNO HYE HNT HOX HOY
    go_wp2_with fail
    refine HT.out.mono ?_
    rintro e w1 ⟨rfl, x1⟩
    go_wp2_with fail
    go_ret
    exact ⟨rfl, xw.trans x1⟩
  case true =>
    have HT := Lib.hid (HTS.out true ht W0 xw)
    have HY2 := Lib.hid (HYE.out ht)
    clear ht HTS HNT HYE
    go_wp2_with fail
    refine HT.out.mono ?_
    rintro e w1 ⟨rfl, x1⟩
    replace hBx := hBx.ext x1
    replace hBy := hBy.ext x1
    replace xw := xw.trans x1
    clear x0 y0 HT x1
    have HBX := Lib.hid hBx
    have HBY := Lib.hid hBy
    have HXW := Lib.hid xw
    clear hBx hBy xw
    go_wp2_with fail
    go_loopw [6] (fun i wr => ∃ j : Nat, i = .int .i64 j ∧ j ≤ max x.n2 y.n2 ∧ Hid (∀ k, k < j → fsEq (ofM x.more k) (ofM y.more k) = true) ∧ Ext w1 wr) (fun i _ => max x.n2 y.n2 - (intOf i).toNat)
    case atStart => exact ⟨0, rfl, by omega, Lib.hid (fun k hk => by omega), Ext.refl w1⟩
    case round =>
      obtain ⟨j, rfl, hj, HJ, hx⟩ := hrel
      have x0 := (HBX.out.ext hx).cell 0
      have x1 := (HBX.out.ext hx).cell 1
      have y0 := (HBY.out.ext hx).cell 0
      have y1 := (HBY.out.ext hx).cell 1
      simp only [List.getElem?_cons_zero, List.getElem?_cons_succ] at x0 x1 y0 y1
      have HW := Lib.hid (HXW.out.trans hx)
      by_cases hjm : j < max x.n2 y.n2
      · have HD := Lib.hid (HOX.out j wr.drew (HW.out.trans (Ext.refl wr).drew))
        have HOY2 := Lib.hid (fun (W : World) (h : Ext wr W) => HOY.out j W (HW.out.trans h))
        have HNJ := Lib.hid (fun h => HNO.out j h hjm)
        generalize hox : ofM x.more j = ox at *
        generalize hoy : ofM y.more j = oy at *
        have HOE := Lib.hid (And.intro hox hoy)
        clear hox hoy HOX HOY HNO
        have hcase : (j < x.n2) ∨ (¬ j < x.n2 ∧ j < y.n2) := by omega
        have hjb : j ≤ 18000 := by omega
        go_upto_region 5 with fail
        go_cut [26] (fun s wx => s = .bool true ∧ wr = wx)
        case first =>
          rcases hcase with h1 | ⟨h1, h2⟩
          · have h1' : (j : Int) < x.n2 := by omega
            go_wp2_with fail
            go_meet
            exact ⟨rfl, rfl⟩
          · have h1' : ¬ (j : Int) < x.n2 := by omega
            have h2' : (j : Int) < y.n2 := by omega
            go_wp2_with fail
            go_meet
            exact ⟨rfl, rfl⟩
        case rest =>
          obtain ⟨rfl, rfl⟩ := hcut
          clear hcase
          go_upto_region 7 with fail
          go_region_held3 (fun w' => w'.cell? ⟨w.heap.size, 0, none⟩ = some (.slice x.A1 x.n1 x.c1) ∧ w'.cell? ⟨w.heap.size, 1, none⟩ = some (.slice x.A2 x.n2 x.c2) ∧ w'.cell? ⟨w.heap.size + 1, 0, none⟩ = some (.slice y.A1 y.n1 y.c1) ∧ w'.cell? ⟨w.heap.size + 1, 1, none⟩ = some (.slice y.A2 y.n2 y.c2))
            (first | go_keep | (exact ⟨z7.cell x0, z7.cell x1, z7.cell y0, z7.cell y1⟩) | (exact ⟨z6.cell x0, z6.cell x1, z6.cell y0, z6.cell y1⟩) | (exact ⟨z5.cell x0, z5.cell x1, z5.cell y0, z5.cell y1⟩))
            (first
              | (go_at_call_of 80 (Value.agg #[Value.slice x.A1 x.n1 x.c1, Value.slice x.A2 x.n2 x.c2]); refine HD.out.mono ?_; rintro e w5 ⟨A5, n5, c5, rfl, hf5, hn5, z5'⟩; have z5 : Ext wr w5 := ((Ext.refl wr).drew).trans z5')
              | (go_at_call_of 80 (Value.agg #[Value.slice y.A1 y.n1 y.c1, Value.slice y.A2 y.n2 y.c2]); refine (HOY2.out _ z5).mono ?_; rintro e w6 ⟨A6, n6, c6, rfl, hf6, hn6, z6'⟩; have z6 : Ext wr w6 := z5.trans z6')
              | (go_at_call 88; refine (ref03_SameB A5 A6 n5 n6 c5 c6 ox oy _ rfl _ ((hf5.ext z5').ext z6') (hf6.ext z6') (by omega) (by omega)).mono ?_; rintro e w7 ⟨rfl, z7'⟩; have z7 : Ext wr w7 := z6.trans z7'))
          have HX7 := Lib.hid (hx.trans z7)
          clear HD HOY2 hf5 hn5 z5' z5 hf6 hn6 z6' z6 z7' z7 x0 x1 y0 y1
          rcases hq : fsEq ox oy with _ | _
          · have hbf : b = false := HNJ.out hq
            subst hbf
            clear hq HNJ
            go_wp2_with fail
            go_ret
            exact ⟨rfl, HXW.out.trans HX7.out⟩
          · have HQ := Lib.hid hq
            clear hq HNJ
            go_wp2_with fail
            go_roundw
            case rel => exact ⟨j + 1, val_int (by omega), by omega, Lib.hid (fun k hk => by
              by_cases e : k = j
              · subst e; rw [HOE.out.1, HOE.out.2]; exact HQ.out
              · exact HJ.out k (by omega)), HX7.out⟩
            case measure => simp [intOf]; omega
      · have hj1 : ¬ (j : Int) < x.n2 := by omega
        have hj2 : ¬ (j : Int) < y.n2 := by omega
        have hbt : b = true := HY2.out (fun k hk => HJ.out k (by omega))
        subst hbt
        go_wp2_with fail
        go_ret
        exact ⟨rfl, HW.out⟩
end Go.Proofs.Ytiildgoaiookhaa
