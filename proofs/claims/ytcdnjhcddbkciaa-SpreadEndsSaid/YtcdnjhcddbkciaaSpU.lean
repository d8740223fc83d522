/- spread.Next and spread.Commit, as the law SpreadEnds calls them. -/
import Derived.Test.YtcdnjhcddbkciaaLgS
import Derived.Test.YtcdnjhcddbkciaaSpA
import Derived.Test.YtcdnjhcddbkciaaRgT
import Derived.BigGuardPart
import Derived.Deep.RegionHeld3
namespace Go.Proofs.Ytcdnjhcddbkciaa
open Go.RowKit

set_option maxRecDepth 100000 in
theorem spread_Next_yes (nx : Int) (n : Nat) (hn : n ≤ 1000) (w : World) :
    Calls Try.prog 57 #[.int .i64 nx, .agg #[.int .i64 4, .int .i64 2, .int .i64 1, .int .i64 99, .int .i64 n, .int .i64 0, .int .i64 0, .int .i64 3, .bool true, .slice none 0 0]] w fun e w' => e = .returned (.int .i64 (1 + (n : Int))) ∧ Ext w w' := by
  have hw : IntKind.i64.wrap ((n : Int) + 1) = 1 + (n : Int) := by rw [IntWalk.i64_in _ (by omega)]; omega
  go_enter Try.func57, Try.ntmps57
  go_wp2_with fail
  go_ret
  exact ⟨rfl, (Ext.refl w).alloc _⟩
set_option maxRecDepth 100000 in
theorem spread_Next_no (a : Nat) (ha : a ≤ 1000) (w : World) :
    Calls Try.prog 57 #[.int .i64 (1 + (a : Int)), .agg #[.int .i64 4, .int .i64 2, .int .i64 1, .int .i64 99, .int .i64 0, .int .i64 0, .int .i64 0, .int .i64 3, .bool false, .slice none 0 0]] w fun e w' => e = .returned (.int .i64 (1 + ((0 : Nat) : Int))) ∧ Ext w w' := by
  rcases Nat.eq_zero_or_pos a with rfl | h0
  · go_enter Try.func57, Try.ntmps57
    go_wp2_with fail
    go_ret
    exact ⟨rfl, (Ext.refl w).alloc _⟩
  · have h1 : (1 : Int) < 1 + (a : Int) := by omega
    have hw : IntKind.i64.wrap (1 + (a : Int) - 1) = (a : Int) := by rw [IntWalk.i64_in _ (by omega)]; omega
    have hm : min (a : Int) 1 = 1 := by omega
    go_enter Try.func57, Try.ntmps57
    go_wp2_with fail
    go_ret
    exact ⟨rfl, (Ext.refl w).alloc _⟩
theorem majorB_two (d : Nat) : majorB [(d : Int), (d : Int), 0] = d := by
  have hs : sortB [(d : Int), (d : Int), 0] = [(d : Int), (d : Int), 0] := by
    unfold sortB
    apply List.mergeSort_of_pairwise
    simp
  unfold majorB
  rw [hs]
  simp
set_option maxRecDepth 100000 in
set_option maxHeartbeats 1600000 in
theorem spread_Commit_two (floor term vote : Int) (A : Option Addr) (n c : Nat) (l : List EV) (M : Option Addr) (q : Nat) (d : Nat) (w : World) (hs : Es w A n l) (hn : n ≤ 1000) (hM : Rd w M 3 1 [.int .i64 d, .int .i64 d, .int .i64 0]) (hd : d ≤ n) (ht : 0 < d → termB l d = term) :
    Calls Try.prog 58 #[.agg #[.int .i64 floor, .int .i64 term, .int .i64 vote, .slice A n c], .slice M 3 q, .int .i64 0] w fun e w' => e = .returned (.int .i64 d) ∧ Ext w w' := by
  have hB : Blk (w.alloc (.cells #[.int .i64 floor, .int .i64 term, .int .i64 vote, .slice A n c] 45)) w.heap.size 45 [.int .i64 floor, .int .i64 term, .int .i64 vote, .slice A n c] := Blk.new w _ [.int .i64 floor, .int .i64 term, .int .i64 vote, .slice A n c]
  have x1 : Ext w (w.alloc (.cells #[.int .i64 floor, .int .i64 term, .int .i64 vote, .slice A n c] 45)) := (Ext.refl w).alloc _
  have hmaj := fun (V : World) (h : Ext w V) => logs_Major M 3 q [(d : Int), (d : Int), 0] V (hM.ext h) (by omega)
  rw [majorB_two] at hmaj
  have HM := Lib.hid hmaj
  have HT := Lib.hid (fun (V : World) (h : Ext w V) => logs_Term A n c l d V (hs.ext h) (by omega))
  have HB := Lib.hid (fun (V : World) (h : Ext (w.alloc (.cells #[.int .i64 floor, .int .i64 term, .int .i64 vote, .slice A n c] 45)) V) => hB.ext h)
  have hmin : min (d : Int) n = d := by omega
  clear hs hM hmaj hB
  go_enter Try.func58, Try.ntmps58
  go_upto_region 1 with fail
  generalize w.alloc (.cells #[.int .i64 floor, .int .i64 term, .int .i64 vote, .slice A n c] 45) = W1 at *
  have y0 := (Ext.refl W1).drew
  have c3 := (HB.out _ (Ext.refl W1)).cell 3
  go_cut [7] (fun v wx => v = .int .i64 d ∧ Ext W1 wx)
  case first =>
    go_region_held3 (fun V => V.cell? ⟨w.heap.size, 3, none⟩ = some (.slice A n c))
      (first | (exact (HB.out _ y1).cell 3) | (exact (HB.out _ y0).cell 3) | go_keep)
      (first | (go_at_call 20; refine (HM.out _ (x1.trans y0)).mono ?_; rintro e w2 ⟨rfl, y1'⟩; have y1 := y0.trans y1'))
    all_goals
      have HY := Lib.hid y1
      go_wp2_with fail
      go_meet
      exact ⟨rfl, HY.out⟩
  case rest =>
    obtain ⟨rfl, hy⟩ := hcut
    obtain ⟨w3, rfl⟩ : ∃ w3, w3 = wc := ⟨_, rfl⟩
    have q1 := (HB.out _ hy).cell 1
    have q3 := (HB.out _ hy).cell 3
    simp only [List.getElem?_cons_zero, List.getElem?_cons_succ] at q1 q3
    have z0 := (Ext.refl w3).drew
    have HY := Lib.hid hy
    clear c3 y0
    rcases Nat.eq_zero_or_pos d with rfl | h0
    · have g0 : decide (((0 : Nat) : Int) > 0) = false := by decide
      go_upto_region 2 with fail
      go_quiet (fail)
      go_wp2_with fail
      go_ret
      exact ⟨rfl, x1.trans (HY.out.drewN _)⟩
    · have g0 : (0 : Int) < d := by omega
      have g1 := dec_t g0
      have ht' := ht h0
      have HT2 := Lib.hid (fun (V : World) (h : Ext w V) => (by have := HT.out V h; rw [ht'] at this; exact this))
      clear ht'
      go_upto_region 2 with fail
      go_region_held3 (fun V => V.cell? ⟨w.heap.size, 1, none⟩ = some (.int .i64 term) ∧ V.cell? ⟨w.heap.size, 3, none⟩ = some (.slice A n c))
        (first | (exact ⟨(HB.out _ (HY.out.trans z0)).cell 1, (HB.out _ (HY.out.trans z0)).cell 3⟩) | go_keep)
        (first | (go_at_call 25; refine (HT2.out _ (x1.trans (HY.out.trans z0))).mono ?_; rintro e w2 ⟨rfl, rfl⟩))
      all_goals
        go_wp2_with fail
        go_ret
        exact ⟨rfl, x1.trans (HY.out.trans z0)⟩
end Go.Proofs.Ytcdnjhcddbkciaa
