/- slices.SortFunc by the shelf's contract; what most have (logs.Major). -/
import Derived.Test.YtcdnjhcddbkciaaLgM
import Derived.Test.YtcdnjhcddbkciaaLogA
import Derived.Test.YtcdnjhcddbkciaaField
import Derived.Shelf.SlSortCmp.NoneTotal
import Derived.Shelf.Lay
import Derived.Shelf.SlGeneric
import Derived.Ground.SlsfProg
import Derived.Lib.RowBridge
import Derived.Lib.SortBridge
namespace Go.Proofs.Ytcdnjhcddbkciaa
open Go.Shelf Go.RowKit
shelf_lay_g SlLaysF.n6 Slsf 6 at Try 60 as Try.sortL

theorem ivs_one (l : List Int) : ∀ u ∈ l.map (Value.int .i64), u.oneCell' = true := by
  intro u hu
  obtain ⟨x, _, rfl⟩ := List.mem_map.1 hu
  rfl
theorem intsT : SliceT Try.prog 22 3 1 8 := .mk' Try.underlying22 (z := .int .i64 0) (by kernel_rfl) rfl

set_option maxRecDepth 100000 in
set_option maxHeartbeats 400000 in
theorem ints_Clone (A : Option Addr) (n c : Nat) (l : List Int) (w : World) (hb : Rd w A n 1 (l.map (Value.int .i64))) (hn : n ≤ 100000) :
    Calls Try.prog 59 #[.slice A n c] w fun e w' => ∃ v, e = .returned v ∧ w'.ownsRow w.heap.size 3 1 v n (l.map (Value.int .i64)) ∧ Ext w w' := by
  have he := fun w => Lib.run_eql_slice_nil (P := Try.prog) w 22 3 A n c 0 0 Try.underlying22
  rcases A with _ | a
  · have h0 : n = 0 := by
      rcases Nat.eq_zero_or_pos n with h | h
      · exact h
      · obtain ⟨b, off, h', _⟩ := hb.2 h; cases h'
    subst h0
    have hl : l = [] := by
      have := hb.1
      rw [List.length_map] at this
      exact List.eq_nil_of_length_eq_zero (by omega)
    subst hl
    simp only [Option.isNone_none] at he
    clear hb
    go_enter Try.func59, Try.ntmps59
    go_wp2
    go_ret
    exact ⟨_, rfl, World.ownsRow_nil _ _ _ _, Ext.refl w⟩
  · simp only [Option.isNone_some] at he
    have hemp := own_empty w 3 1
    go_enter Try.func59, Try.ntmps59
    go_wp2_with (at_builtin; refine wpList_app intsT (by omega) _ rfl rfl rfl hemp rfl (Rd.alloc hb _) (ivs_one _) (by unfold maxLen; omega) (by omega) (by simp) ?_; intro v4 w4 hown4 hg4 hat4)
    go_ret
    exact ⟨_, rfl, own_to hown4 (Nat.le_refl _) (by omega) (by simp), Below.app ((Ext.refl w).alloc _) hg4 (by simp) hemp (Nat.le_refl _)⟩

/-- the comparison: the greatest first -/
def cfF (x y : Int) : Int := if y < x then -1 else if x < y then 1 else 0
theorem ltF (x y : Int) : ltOf cfF x y = decide (y < x) := by
  unfold ltOf cfF
  by_cases h1 : y < x
  · simp [h1]
  · by_cases h2 : x < y <;> simp [h1, h2]
theorem swoF : Go.Sort.SWO (ltOf cfF) where
  irrefl x := by rw [ltF]; simp
  trans x y z h1 h2 := by rw [ltF] at *; simp at *; omega
  ntrans x y z h1 h2 := by rw [ltF] at *; simp at *; omega
theorem totF (x y : Int) (h1 : ltOf cfF x y = false) (h2 : ltOf cfF y x = false) : x = y := by rw [ltF] at *; simp at *; omega
theorem geF : (fun x y : Int => !ltOf cfF y x) = fun x y => decide (y ≤ x) := by
  funext x y
  rw [ltF]
  by_cases h : y ≤ x
  · have h' : ¬ x < y := by omega
    simp [h, h']
  · have h' : x < y := by omega
    simp [h, h']
set_option maxHeartbeats 1000000 in
theorem major_cmp (x y : Int) (W : World) : Calls Try.prog 61 #[.int .i64 x, .int .i64 y] W fun e w' => e = .returned (.int .i64 (cfF x y)) ∧ ∃ q, w' = W.drewN q := by
  unfold cfF
  by_cases h1 : y < x
  · rw [if_pos h1]
    have t1 := dec_t h1
    go_enter Try.func61, Try.ntmps61
    go_wp2
    go_ret
    exact ⟨rfl, 0, rfl⟩
  · rw [if_neg h1]
    have t1 := dec_f h1
    by_cases h2 : x < y
    · rw [if_pos h2]
      have t2 := dec_t h2
      go_enter Try.func61, Try.ntmps61
      go_wp2
      go_ret
      exact ⟨rfl, 0, rfl⟩
    · rw [if_neg h2]
      have t2 := dec_f h2
      go_enter Try.func61, Try.ntmps61
      go_wp2
      go_ret
      exact ⟨rfl, 0, rfl⟩
theorem major_reads (blk off size : Nat) (w : World) : CmpReads Try.prog 61 #[] (Value.int .i64) cfF blk off size w := fun _ _ _ _ x y => major_cmp x y _

theorem Ext.grow {a w : World} (h : Ext a w) (os : Array Obj) : Ext a (Go.Sort.grow w os) :=
  ⟨h.os, h.tape, h.output, Nat.le_trans h.size (by simp [Go.Sort.grow]), fun k hk => by rw [Go.Sort.heap_grow_old w os (Nat.lt_of_lt_of_le hk h.size)]; exact h.block k hk⟩
theorem Ext.setCells {a : World} {b : Nat} (hb : a.heap.size ≤ b) : ∀ (vs : List Value) (o : Nat) (w : World), Ext a w → Ext a (w.setCells b o vs)
  | [], _, _, h => h
  | v :: r, o, _, h => Ext.setCells hb r (o + 1) _ (h.setCell (p := ⟨b, o, none⟩) hb v)

theorem own_holds {w : World} {base : Nat} {e : TypeId} {A : Option Addr} {n c : Nat} {l : List Int} (h : w.ownsRow base e 1 (.slice A n c) n (l.map (Value.int .i64))) (hn : 0 < n) :
    ∃ g, A = some ⟨g, 0, none⟩ ∧ base ≤ g ∧ g < w.heap.size ∧ l.length = n ∧ Go.Sort.Holds (Value.int .i64) w g 0 l.toArray := by
  have hl : l.length = n := by have := h.1; rw [List.length_map] at this; omega
  have hr := Rd.of_own h
  rcases h.2 with ⟨hv, h0⟩ | ⟨g, cap, cur, hv, hb, hg, _⟩
  · omega
  · have hA : A = some ⟨g, 0, none⟩ := by injection hv
    subst hA
    have hB : Blk w g e cur.toList := by simpa [Blk] using hg
    refine ⟨g, rfl, hb, hB.lt, hl, fun j hj => ⟨?_, ?_⟩⟩
    · obtain ⟨b, off, e1, _, hc⟩ := hr.2 hn
      injection e1 with e1
      injection e1 with e1 e2
      subst e1 e2
      have hj' : j < l.length := by simpa using hj
      have := hc j (.int .i64 l[j]) (by simp [hj'])
      simpa [hj'] using this
    · simpa using hB.frozen j

set_option maxRecDepth 100000 in
set_option maxHeartbeats 1000000 in
theorem logs_Major (A : Option Addr) (n c : Nat) (l : List Int) (w : World) (hr : Rd w A n 1 (l.map (Value.int .i64))) (hn : n ≤ 100000) :
    Calls Try.prog 20 #[.slice A n c] w fun e w' => e = .returned (.int .i64 (majorB l)) ∧ Ext w w' := by
  have hlen : l.length = n := by have := hr.1; rw [List.length_map] at this; omega
  rcases Nat.eq_zero_or_pos n with rfl | h0
  · have hl : l = [] := List.eq_nil_of_length_eq_zero hlen
    subst hl
    rw [majorB_nil]
    clear hlen hr
    go_enter Try.func20, Try.ntmps20
    go_wp2
    go_ret
    exact ⟨rfl, Ext.refl w⟩
  · have HC := Lib.hid (ints_Clone A n c l w hr hn)
    have hz := beq_f (show (n : Int) ≠ 0 by omega)
    clear hr
    have eg : ∀ args w, (callFunc 61 args).run Try.prog w = .ok (.enter 61 args) w := enters_of Try.func61 (by kernel_rfl) rfl
    have Eg := Lib.hid eg
    clear eg
    go_enter Try.func20, Try.ntmps20
    go_wp2_with fail
    refine HC.out.mono ?_
    rintro e w1 ⟨v1, rfl, hown, x1⟩
    obtain ⟨A1, c1, rfl, _⟩ := own_form hown
    obtain ⟨g, rfl, hg1, hg2, _, hH⟩ := own_holds hown h0
    have hS := Any.slices_SortFunc_total Try.sortL (Value.int .i64) (fun _ => rfl) cfF swoF 61 #[] g 0 c1 l.toArray w1 Eg.out (major_reads g 0 l.toArray.size w1).lays hH hg2 (by simp; omega) totF
    rw [geF] at hS
    change Calls Try.prog 60 _ _ _ at hS
    rw [List.size_toArray, hlen] at hS
    have HS := Lib.hid hS
    clear hS HC
    have hcell := fun q os => Lib.cells_sorted_ints (W := w1) (b := g) (off := 0) (n := n) (q := q) (zs := l) (ys := sortB l) (os := os) (by omega) (by rw [sortB_len, hlen]) (fun j hj => by have := (hH j (by simpa using hj)).1; simpa [hj] using this) (n / 2) (by rw [List.length_append, sortB_len]; omega)
    have hw := fun q os => Lib.sorted_world (Value.int .i64) w1 g 0 q l.toArray (sortB l) os hH (by rw [sortB_len]; simp)
    have hmid : (sortB l ++ l.drop n).getD (n / 2) 0 = majorB l := by
      unfold majorB
      rw [hlen, List.getD_eq_getElem?_getD, List.getElem?_append_left (by rw [sortB_len]; omega)]
    rw [hmid] at hcell
    have xs : ∀ q os, Ext w (Go.Sort.grow ((w1.drewN q).setCells g 0 ((sortB l).map (Value.int .i64))) os) := fun q os => (Ext.setCells hg1 _ _ _ (x1.drewN q)).grow os
    have HK := Lib.hid hcell
    have HW := Lib.hid hw
    have HX := Lib.hid xs
    have hdiv : Int.tdiv (n : Int) 2 = ((n / 2 : Nat) : Int) := by rw [Int.tdiv_eq_ediv_of_nonneg (by omega)]; rfl
    have hd1 : (0 : Int) ≤ ((n / 2 : Nat) : Int) := by omega
    have hd2 : ((n / 2 : Nat) : Int) < n := by omega
    clear hcell hw xs hmid hH hown
    go_wp2_with fail
    refine HS.out.mono ?_
    rintro e w2 ⟨rfl, q, os, rfl⟩
    have h2 := HK.out q os
    have x2 := HX.out q os
    have h3 := HW.out q os
    unfold sortB at h2 x2 h3
    have h4 : sortWorld (Value.int .i64) w1 g 0 q (l.mergeSort fun x y => decide (y ≤ x)).toArray os = Go.Sort.grow (Go.Sort.putRow (Value.int .i64) (Go.Sort.ahead w1 q) g 0 (l.mergeSort fun x y => decide (y ≤ x)).toArray) os := rfl
    rw [h4, h3]
    clear h3 h4 HK HX HW HS
    generalize Go.Sort.grow ((w1.drewN q).setCells g 0 ((l.mergeSort fun x y => decide (y ≤ x)).map (Value.int .i64))) os = w3 at *
    rw [Nat.zero_add] at h2
    go_wp2
    go_ret
    exact ⟨rfl, x2⟩
end Go.Proofs.Ytcdnjhcddbkciaa
