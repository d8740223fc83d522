/- slices.SortFunc by the shelf's contract; what most have (logs.Major). -/
import Derived.Test.YtcdnjhcddbkciaaLgM
import Derived.Test.YtcdnjhcddbkciaaLogA
import Derived.Test.YtcdnjhcddbkciaaField
import Derived.Shelf.SlSortCmp.NoneTotal
import Derived.Ground.SlsfProg
import Derived.Lib.RowBridge
import Derived.Lib.SortBridge
namespace Go.Proofs.Ytcdnjhcddbkciaa
open Go.Shelf Go.RowKit
def Try.sortL_ren : Go.Shelf.Ren := ⟨fun | 6 => 60 | 15 => 70 | 14 => 69 | 28 => 83 | 29 => 84 | 20 => 75 | 21 => 76 | 22 => 77 | 23 => 78 | 24 => 79 | 25 => 80 | 26 => 81 | 27 => 82 | 46 => 85 | 47 => 86 | 48 => 87 | 49 => 88 | 50 => 89 | 57 => 90 | n => n, fun | 22 => 22 | 24 => 3 | 25 => 87 | 3 => 3 | 39 => 95 | 0 => 0 | 53 => 108 | 55 => 98 | 4 => 4 | 46 => 101 | 45 => 100 | 50 => 105 | 5 => 5 | 9 => 9 | 66 => 110 | 70 => 114 | 76 => 116 | 77 => 31 | n => n, fun | n => n⟩
theorem Try.sortL : Go.Proofs.SlLaysF.n6 Try.prog Try.sortL_ren where
  mixed := by kernel_rfl
  f6 := ⟨ "slices.SortFunc[[]int,int]", by decide, Try.func60.trans (congrArg some (by kernel_rfl))⟩
  f14 := ⟨ "slices.pdqsortCmpFunc[int]", by decide, Try.func69.trans (congrArg some (by kernel_rfl))⟩
  f15 := Try.func70.trans (congrArg some (by kernel_rfl))
  f20 := ⟨ "slices.insertionSortCmpFunc[int]", by decide, Try.func75.trans (congrArg some (by kernel_rfl))⟩
  f21 := ⟨ "slices.heapSortCmpFunc[int]", by decide, Try.func76.trans (congrArg some (by kernel_rfl))⟩
  f22 := ⟨ "slices.breakPatternsCmpFunc[int]", by decide, Try.func77.trans (congrArg some (by kernel_rfl))⟩
  f23 := ⟨ "slices.choosePivotCmpFunc[int]", by decide, Try.func78.trans (congrArg some (by kernel_rfl))⟩
  f24 := ⟨ "slices.reverseRangeCmpFunc[int]", by decide, Try.func79.trans (congrArg some (by kernel_rfl))⟩
  f25 := ⟨ "slices.partialInsertionSortCmpFunc[int]", by decide, Try.func80.trans (congrArg some (by kernel_rfl))⟩
  f26 := ⟨ "slices.partitionEqualCmpFunc[int]", by decide, Try.func81.trans (congrArg some (by kernel_rfl))⟩
  f27 := ⟨ "slices.partitionCmpFunc[int]", by decide, Try.func82.trans (congrArg some (by kernel_rfl))⟩
  f28 := Try.func83.trans (congrArg some (by kernel_rfl))
  f29 := Try.func84.trans (congrArg some (by kernel_rfl))
  f46 := ⟨ "slices.siftDownCmpFunc[int]", by decide, Try.func85.trans (congrArg some (by kernel_rfl))⟩
  f47 := Try.func86.trans (congrArg some (by kernel_rfl))
  f48 := Try.func87.trans (congrArg some (by kernel_rfl))
  f49 := ⟨ "slices.medianAdjacentCmpFunc[int]", by decide, Try.func88.trans (congrArg some (by kernel_rfl))⟩
  f50 := ⟨ "slices.medianCmpFunc[int]", by decide, Try.func89.trans (congrArg some (by kernel_rfl))⟩
  f57 := ⟨ "slices.order2CmpFunc[int]", by decide, Try.func90.trans (congrArg some (by kernel_rfl))⟩
  t0 := Try.underlying0
  a0 := Try.isAgg0
  z0 := Try.sizeOf0
  v0 := Try.zeroValue0
  t3 := Try.underlying3
  a3 := Try.isAgg3
  z3 := Try.sizeOf3
  v3 := Try.zeroValue3
  t4 := Try.underlying4
  a4 := Try.isAgg4
  z4 := Try.sizeOf4
  v4 := Try.zeroValue4
  t5 := Try.underlying5
  a5 := Try.isAgg5
  z5 := Try.sizeOf5
  v5 := Try.zeroValue5
  t9 := Try.underlying9
  a9 := Try.isAgg9
  z9 := Try.sizeOf9
  v9 := Try.zeroValue9
  t22 := Try.underlying22
  a22 := Try.isAgg22
  z22 := Try.sizeOf22
  v22 := Try.zeroValue22
  a24 := Try.isAgg3
  z24 := Try.sizeOf3
  t25 := Try.underlying87
  a25 := Try.isAgg87
  z25 := Try.sizeOf87
  v25 := Try.zeroValue87
  t39 := Try.underlying95
  a39 := Try.isAgg95
  z39 := Try.sizeOf95
  v39 := Try.zeroValue95
  t45 := Try.underlying100
  a45 := Try.isAgg100
  z45 := Try.sizeOf100
  v45 := Try.zeroValue100
  t46 := Try.underlying101
  a46 := Try.isAgg101
  z46 := Try.sizeOf101
  v46 := Try.zeroValue101
  t50 := Try.underlying105
  a50 := Try.isAgg105
  z50 := Try.sizeOf105
  v50 := Try.zeroValue105
  t53 := Try.underlying108
  a53 := Try.isAgg108
  z53 := Try.sizeOf108
  v53 := Try.zeroValue108
  t55 := Try.underlying98
  a55 := Try.isAgg98
  z55 := Try.sizeOf98
  v55 := Try.zeroValue98
  t66 := Try.underlying110
  a66 := Try.isAgg110
  z66 := Try.sizeOf110
  v66 := Try.zeroValue110
  t70 := Try.underlying114
  a70 := Try.isAgg114
  z70 := Try.sizeOf114
  v70 := Try.zeroValue114
  t76 := Try.underlying116
  a76 := Try.isAgg116
  z76 := Try.sizeOf116
  v76 := Try.zeroValue116
  t77 := Try.underlying31
  a77 := Try.isAgg31
  z77 := Try.sizeOf31
  v77 := Try.zeroValue31

theorem ivs_one (l : List Int) : ∀ u ∈ l.map (Value.int .i64), u.oneCell' = true := by
  intro u hu
  obtain ⟨x, _, rfl⟩ := List.mem_map.1 hu
  rfl
theorem intsT : SliceT Try.prog 22 3 1 8 := .mk' Try.underlying22 (z := .int .i64 0) (by kernel_rfl) rfl

set_option maxRecDepth 100000 in
set_option maxHeartbeats 400000 in
theorem ints_Clone (A : Option Addr) (n c : Nat) (l : List Int) (w : World) (hb : Rd w A n 1 (l.map (Value.int .i64))) (hn : n ≤ 100000) :
    Calls Try.prog 59 #[.slice A n c] w fun e w' => ∃ v, e = .returned v ∧ w'.ownsRow w.heap.size 3 1 v n (l.map (Value.int .i64)) ∧ Ext w w' := by
  have he := fun w => Lib.run_eql_slice_nil (P := Try.prog) w 22 3 A n c 0 0 Try.underlying22
  rcases A with _ | a
  · have h0 : n = 0 := by
      rcases Nat.eq_zero_or_pos n with h | h
      · exact h
      · obtain ⟨b, off, h', _⟩ := hb.2 h; cases h'
    subst h0
    have hl : l = [] := by
      have := hb.1
      rw [List.length_map] at this
      exact List.eq_nil_of_length_eq_zero (by omega)
    subst hl
    simp only [Option.isNone_none] at he
    clear hb
    go_enter Try.func59, Try.ntmps59
    go_wp2
    go_ret
    exact ⟨_, rfl, World.ownsRow_nil _ _ _ _, Ext.refl w⟩
  · simp only [Option.isNone_some] at he
    have hemp := own_empty w 3 1
    go_enter Try.func59, Try.ntmps59
    go_wp2_with (at_builtin; refine wpList_app intsT (by omega) _ rfl rfl rfl hemp rfl (Rd.alloc hb _) (ivs_one _) (by unfold maxLen; omega) (by omega) (by simp) ?_; intro v4 w4 hown4 hg4 hat4)
    go_ret
    exact ⟨_, rfl, own_to hown4 (Nat.le_refl _) (by omega) (by simp), Below.app ((Ext.refl w).alloc _) hg4 (by simp) hemp (Nat.le_refl _)⟩

/-- the comparison: the greatest first -/
def cfF (x y : Int) : Int := if y < x then -1 else if x < y then 1 else 0
theorem ltF (x y : Int) : ltOf cfF x y = decide (y < x) := by
  unfold ltOf cfF
  by_cases h1 : y < x
  · simp [h1]
  · by_cases h2 : x < y <;> simp [h1, h2]
theorem swoF : Go.Sort.SWO (ltOf cfF) where
  irrefl x := by rw [ltF]; simp
  trans x y z h1 h2 := by rw [ltF] at *; simp at *; omega
  ntrans x y z h1 h2 := by rw [ltF] at *; simp at *; omega
theorem totF (x y : Int) (h1 : ltOf cfF x y = false) (h2 : ltOf cfF y x = false) : x = y := by rw [ltF] at *; simp at *; omega
theorem geF : (fun x y : Int => !ltOf cfF y x) = fun x y => decide (y ≤ x) := by
  funext x y
  rw [ltF]
  by_cases h : y ≤ x
  · have h' : ¬ x < y := by omega
    simp [h, h']
  · have h' : x < y := by omega
    simp [h, h']
set_option maxHeartbeats 1000000 in
theorem major_cmp (x y : Int) (W : World) : Calls Try.prog 61 #[.int .i64 x, .int .i64 y] W fun e w' => e = .returned (.int .i64 (cfF x y)) ∧ ∃ q, w' = W.drewN q := by
  unfold cfF
  by_cases h1 : y < x
  · rw [if_pos h1]
    have t1 := dec_t h1
    go_enter Try.func61, Try.ntmps61
    go_wp2
    go_ret
    exact ⟨rfl, 0, rfl⟩
  · rw [if_neg h1]
    have t1 := dec_f h1
    by_cases h2 : x < y
    · rw [if_pos h2]
      have t2 := dec_t h2
      go_enter Try.func61, Try.ntmps61
      go_wp2
      go_ret
      exact ⟨rfl, 0, rfl⟩
    · rw [if_neg h2]
      have t2 := dec_f h2
      go_enter Try.func61, Try.ntmps61
      go_wp2
      go_ret
      exact ⟨rfl, 0, rfl⟩
theorem major_reads (blk off size : Nat) (w : World) : CmpReads Try.prog 61 #[] (Value.int .i64) cfF blk off size w := fun _ _ _ _ x y => major_cmp x y _

theorem Ext.grow {a w : World} (h : Ext a w) (os : Array Obj) : Ext a (Go.Sort.grow w os) :=
  ⟨h.os, h.tape, h.output, Nat.le_trans h.size (by simp [Go.Sort.grow]), fun k hk => by rw [Go.Sort.heap_grow_old w os (Nat.lt_of_lt_of_le hk h.size)]; exact h.block k hk⟩
theorem Ext.setCells {a : World} {b : Nat} (hb : a.heap.size ≤ b) : ∀ (vs : List Value) (o : Nat) (w : World), Ext a w → Ext a (w.setCells b o vs)
  | [], _, _, h => h
  | v :: r, o, _, h => Ext.setCells hb r (o + 1) _ (h.setCell (p := ⟨b, o, none⟩) hb v)

theorem own_holds {w : World} {base : Nat} {e : TypeId} {A : Option Addr} {n c : Nat} {l : List Int} (h : w.ownsRow base e 1 (.slice A n c) n (l.map (Value.int .i64))) (hn : 0 < n) :
    ∃ g, A = some ⟨g, 0, none⟩ ∧ base ≤ g ∧ g < w.heap.size ∧ l.length = n ∧ Go.Sort.Holds (Value.int .i64) w g 0 l.toArray := by
  have hl : l.length = n := by have := h.1; rw [List.length_map] at this; omega
  have hr := Rd.of_own h
  rcases h.2 with ⟨hv, h0⟩ | ⟨g, cap, cur, hv, hb, hg, _⟩
  · omega
  · have hA : A = some ⟨g, 0, none⟩ := by injection hv
    subst hA
    have hB : Blk w g e cur.toList := by simpa [Blk] using hg
    refine ⟨g, rfl, hb, hB.lt, hl, fun j hj => ⟨?_, ?_⟩⟩
    · obtain ⟨b, off, e1, _, hc⟩ := hr.2 hn
      injection e1 with e1
      injection e1 with e1 e2
      subst e1 e2
      have hj' : j < l.length := by simpa using hj
      have := hc j (.int .i64 l[j]) (by simp [hj'])
      simpa [hj'] using this
    · simpa using hB.frozen j

set_option maxRecDepth 100000 in
set_option maxHeartbeats 1000000 in
theorem logs_Major (A : Option Addr) (n c : Nat) (l : List Int) (w : World) (hr : Rd w A n 1 (l.map (Value.int .i64))) (hn : n ≤ 100000) :
    Calls Try.prog 20 #[.slice A n c] w fun e w' => e = .returned (.int .i64 (majorB l)) ∧ Ext w w' := by
  have hlen : l.length = n := by have := hr.1; rw [List.length_map] at this; omega
  rcases Nat.eq_zero_or_pos n with rfl | h0
  · have hl : l = [] := List.eq_nil_of_length_eq_zero hlen
    subst hl
    rw [majorB_nil]
    clear hlen hr
    go_enter Try.func20, Try.ntmps20
    go_wp2
    go_ret
    exact ⟨rfl, Ext.refl w⟩
  · have HC := Lib.hid (ints_Clone A n c l w hr hn)
    have hz := beq_f (show (n : Int) ≠ 0 by omega)
    clear hr
    have eg : ∀ args w, (callFunc 61 args).run Try.prog w = .ok (.enter 61 args) w := enters_of Try.func61 (by kernel_rfl) rfl
    have Eg := Lib.hid eg
    clear eg
    go_enter Try.func20, Try.ntmps20
    go_wp2_with fail
    refine HC.out.mono ?_
    rintro e w1 ⟨v1, rfl, hown, x1⟩
    obtain ⟨A1, c1, rfl, _⟩ := own_form hown
    obtain ⟨g, rfl, hg1, hg2, _, hH⟩ := own_holds hown h0
    have hS := Any.slices_SortFunc_total Try.sortL (Value.int .i64) (fun _ => rfl) cfF swoF 61 #[] g 0 c1 l.toArray w1 Eg.out (major_reads g 0 l.toArray.size w1).lays hH hg2 (by simp; omega) totF
    rw [geF] at hS
    change Calls Try.prog 60 _ _ _ at hS
    rw [List.size_toArray, hlen] at hS
    have HS := Lib.hid hS
    clear hS HC
    have hcell := fun q os => Lib.cells_sorted_ints (W := w1) (b := g) (off := 0) (n := n) (q := q) (zs := l) (ys := sortB l) (os := os) (by omega) (by rw [sortB_len, hlen]) (fun j hj => by have := (hH j (by simpa using hj)).1; simpa [hj] using this) (n / 2) (by rw [List.length_append, sortB_len]; omega)
    have hw := fun q os => Lib.sorted_world (Value.int .i64) w1 g 0 q l.toArray (sortB l) os hH (by rw [sortB_len]; simp)
    have hmid : (sortB l ++ l.drop n).getD (n / 2) 0 = majorB l := by
      unfold majorB
      rw [hlen, List.getD_eq_getElem?_getD, List.getElem?_append_left (by rw [sortB_len]; omega)]
    rw [hmid] at hcell
    have xs : ∀ q os, Ext w (Go.Sort.grow ((w1.drewN q).setCells g 0 ((sortB l).map (Value.int .i64))) os) := fun q os => (Ext.setCells hg1 _ _ _ (x1.drewN q)).grow os
    have HK := Lib.hid hcell
    have HW := Lib.hid hw
    have HX := Lib.hid xs
    have hdiv : Int.tdiv (n : Int) 2 = ((n / 2 : Nat) : Int) := by rw [Int.tdiv_eq_ediv_of_nonneg (by omega)]; rfl
    have hd1 : (0 : Int) ≤ ((n / 2 : Nat) : Int) := by omega
    have hd2 : ((n / 2 : Nat) : Int) < n := by omega
    clear hcell hw xs hmid hH hown
    go_wp2_with fail
    refine HS.out.mono ?_
    rintro e w2 ⟨rfl, q, os, rfl⟩
    have h2 := HK.out q os
    have x2 := HX.out q os
    have h3 := HW.out q os
    unfold sortB at h2 x2 h3
    have h4 : sortWorld (Value.int .i64) w1 g 0 q (l.mergeSort fun x y => decide (y ≤ x)).toArray os = Go.Sort.grow (Go.Sort.putRow (Value.int .i64) (Go.Sort.ahead w1 q) g 0 (l.mergeSort fun x y => decide (y ≤ x)).toArray) os := rfl
    rw [h4, h3]
    clear h3 h4 HK HX HW HS
    generalize Go.Sort.grow ((w1.drewN q).setCells g 0 ((l.mergeSort fun x y => decide (y ≤ x)).map (Value.int .i64))) os = w3 at *
    rw [Nat.zero_add] at h2
    go_wp2
    go_ret
    exact ⟨rfl, x2⟩
end Go.Proofs.Ytcdnjhcddbkciaa
