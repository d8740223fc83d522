/- The walks of the reference's specs, and of the laws' head of layer 4. -/
import Derived.Test.YtjfohlnkdagjcaaFormB
import Derived.Test.YtjfohlnkdagjcaaGrow
import Derived.BigGuardPart
namespace Go.Proofs.Ytjfohlnkdagjcaa
open Go.RowKit

set_option maxRecDepth 100000 in
theorem ref04_number (num since : Int) (need : Bool) (w : World) : Calls Try.prog 68 #[.int .i64 num, .int .i64 since, .bool need] w fun e w' => e = .returned (.agg #[.int .i64 num, .int .i64 0, .int .i64 since, .bool need, .bool false]) ∧ Ext w w' := by
  go_enter Try.func68, Try.ntmps68
  go_wp2
  refine bodyPost_ret (v := .agg #[.int .i64 num, .int .i64 0, .int .i64 since, .bool need, .bool false]) (by simp [results, Try.results68, go_sem]) rfl ⟨rfl, ?_⟩
  repeat (refine Ext.setCell ?_ (by simp) _)
  exact (Ext.refl w).alloc _
set_option maxRecDepth 100000 in
theorem ref04_bytes (num since : Int) (need many : Bool) (w : World) : Calls Try.prog 69 #[.int .i64 num, .int .i64 since, .bool need, .bool many] w fun e w' => e = .returned (.agg #[.int .i64 num, .int .i64 2, .int .i64 since, .bool need, .bool many]) ∧ Ext w w' := by
  go_enter Try.func69, Try.ntmps69
  go_wp2
  refine bodyPost_ret (v := .agg #[.int .i64 num, .int .i64 2, .int .i64 since, .bool need, .bool many]) (by simp [results, Try.results69, go_sem]) rfl ⟨rfl, ?_⟩
  repeat (refine Ext.setCell ?_ (by simp) _)
  exact (Ext.refl w).alloc _

set_option maxRecDepth 100000 in
set_option maxHeartbeats 800000 in
theorem ref04_all_1 (w : World) : Calls Try.prog 61 #[.int .i64 1] w fun e w' => ∃ v, e = .returned v ∧ w'.ownsRow w.heap.size 60 5 v (formOf 1).length (specOf (formOf 1)) ∧ Ext w w' := by
  have hx := Ext.refl w
  go_enter Try.func61, Try.ntmps61
  go_wp2_with (first
    | (go_at_call 68; refine (ref04_number _ _ _ _).mono ?_; rintro e w9 ⟨rfl, x9⟩; replace hx := hx.trans x9; clear x9)
    | (go_at_call 69; refine (ref04_bytes _ _ _ _ _).mono ?_; rintro e w9 ⟨rfl, x9⟩; replace hx := hx.trans x9; clear x9))
  go_ret
  exact ⟨_, rfl, own_to (own_blk _ _ _ 5 8 rfl (by omega) hx.size _ rfl) (Nat.le_refl _) rfl rfl, hx.alloc _⟩

set_option maxRecDepth 100000 in
set_option maxHeartbeats 800000 in
theorem ref04_all_2 (w : World) : Calls Try.prog 61 #[.int .i64 2] w fun e w' => ∃ v, e = .returned v ∧ w'.ownsRow w.heap.size 60 5 v (formOf 2).length (specOf (formOf 2)) ∧ Ext w w' := by
  have hx := Ext.refl w
  go_enter Try.func61, Try.ntmps61
  go_wp2_with (first
    | (go_at_call 68; refine (ref04_number _ _ _ _).mono ?_; rintro e w9 ⟨rfl, x9⟩; replace hx := hx.trans x9; clear x9)
    | (go_at_call 69; refine (ref04_bytes _ _ _ _ _).mono ?_; rintro e w9 ⟨rfl, x9⟩; replace hx := hx.trans x9; clear x9))
  go_ret
  exact ⟨_, rfl, own_to (own_blk _ _ _ 5 5 rfl (by omega) hx.size _ rfl) (Nat.le_refl _) rfl rfl, hx.alloc _⟩

set_option maxRecDepth 100000 in
set_option maxHeartbeats 800000 in
theorem ref04_all_3 (w : World) : Calls Try.prog 61 #[.int .i64 3] w fun e w' => ∃ v, e = .returned v ∧ w'.ownsRow w.heap.size 60 5 v (formOf 3).length (specOf (formOf 3)) ∧ Ext w w' := by
  have hx := Ext.refl w
  go_enter Try.func61, Try.ntmps61
  go_wp2_with (first
    | (go_at_call 68; refine (ref04_number _ _ _ _).mono ?_; rintro e w9 ⟨rfl, x9⟩; replace hx := hx.trans x9; clear x9)
    | (go_at_call 69; refine (ref04_bytes _ _ _ _ _).mono ?_; rintro e w9 ⟨rfl, x9⟩; replace hx := hx.trans x9; clear x9))
  go_ret
  exact ⟨_, rfl, own_to (own_blk _ _ _ 5 2 rfl (by omega) hx.size _ rfl) (Nat.le_refl _) rfl rfl, hx.alloc _⟩

set_option maxRecDepth 100000 in
set_option maxHeartbeats 800000 in
theorem ref04_all_4 (w : World) : Calls Try.prog 61 #[.int .i64 4] w fun e w' => ∃ v, e = .returned v ∧ w'.ownsRow w.heap.size 60 5 v (formOf 4).length (specOf (formOf 4)) ∧ Ext w w' := by
  have hx := Ext.refl w
  go_enter Try.func61, Try.ntmps61
  go_wp2_with (first
    | (go_at_call 68; refine (ref04_number _ _ _ _).mono ?_; rintro e w9 ⟨rfl, x9⟩; replace hx := hx.trans x9; clear x9)
    | (go_at_call 69; refine (ref04_bytes _ _ _ _ _).mono ?_; rintro e w9 ⟨rfl, x9⟩; replace hx := hx.trans x9; clear x9))
  go_ret
  exact ⟨_, rfl, own_to (own_blk _ _ _ 5 4 rfl (by omega) hx.size _ rfl) (Nat.le_refl _) rfl rfl, hx.alloc _⟩

set_option maxRecDepth 100000 in
set_option maxHeartbeats 800000 in
theorem ref04_all_5 (w : World) : Calls Try.prog 61 #[.int .i64 5] w fun e w' => ∃ v, e = .returned v ∧ w'.ownsRow w.heap.size 60 5 v (formOf 5).length (specOf (formOf 5)) ∧ Ext w w' := by
  have hx := Ext.refl w
  go_enter Try.func61, Try.ntmps61
  go_wp2_with (first
    | (go_at_call 68; refine (ref04_number _ _ _ _).mono ?_; rintro e w9 ⟨rfl, x9⟩; replace hx := hx.trans x9; clear x9)
    | (go_at_call 69; refine (ref04_bytes _ _ _ _ _).mono ?_; rintro e w9 ⟨rfl, x9⟩; replace hx := hx.trans x9; clear x9))
  go_ret
  exact ⟨_, rfl, own_to (own_blk _ _ _ 5 7 rfl (by omega) hx.size _ rfl) (Nat.le_refl _) rfl rfl, hx.alloc _⟩

set_option maxRecDepth 100000 in
set_option maxHeartbeats 800000 in
theorem ref04_all_6 (w : World) : Calls Try.prog 61 #[.int .i64 6] w fun e w' => ∃ v, e = .returned v ∧ w'.ownsRow w.heap.size 60 5 v (formOf 6).length (specOf (formOf 6)) ∧ Ext w w' := by
  have hx := Ext.refl w
  go_enter Try.func61, Try.ntmps61
  go_wp2_with (first
    | (go_at_call 68; refine (ref04_number _ _ _ _).mono ?_; rintro e w9 ⟨rfl, x9⟩; replace hx := hx.trans x9; clear x9)
    | (go_at_call 69; refine (ref04_bytes _ _ _ _ _).mono ?_; rintro e w9 ⟨rfl, x9⟩; replace hx := hx.trans x9; clear x9))
  go_ret
  exact ⟨_, rfl, own_to (own_blk _ _ _ 5 10 rfl (by omega) hx.size _ rfl) (Nat.le_refl _) rfl rfl, hx.alloc _⟩

set_option maxRecDepth 100000 in
set_option maxHeartbeats 800000 in
theorem ref04_all_7 (w : World) : Calls Try.prog 61 #[.int .i64 7] w fun e w' => ∃ v, e = .returned v ∧ w'.ownsRow w.heap.size 60 5 v (formOf 7).length (specOf (formOf 7)) ∧ Ext w w' := by
  have hx := Ext.refl w
  go_enter Try.func61, Try.ntmps61
  go_wp2_with (first
    | (go_at_call 68; refine (ref04_number _ _ _ _).mono ?_; rintro e w9 ⟨rfl, x9⟩; replace hx := hx.trans x9; clear x9)
    | (go_at_call 69; refine (ref04_bytes _ _ _ _ _).mono ?_; rintro e w9 ⟨rfl, x9⟩; replace hx := hx.trans x9; clear x9))
  go_ret
  exact ⟨_, rfl, own_to (own_blk _ _ _ 5 2 rfl (by omega) hx.size _ rfl) (Nat.le_refl _) rfl rfl, hx.alloc _⟩

set_option maxRecDepth 100000 in
set_option maxHeartbeats 800000 in
theorem ref04_all (kind : Int) (w : World) : Calls Try.prog 61 #[.int .i64 kind] w fun e w' => ∃ v, e = .returned v ∧ w'.ownsRow w.heap.size 60 5 v (formOf kind).length (specOf (formOf kind)) ∧ Ext w w' := by
  rcases formOf_cases kind with ⟨h, hf⟩ | rfl | rfl | rfl | rfl | rfl | rfl | rfl
  · rw [hf]
    have b1 := beq_f (show kind ≠ 1 by omega)
    have b2 := beq_f (show kind ≠ 2 by omega)
    have b3 := beq_f (show kind ≠ 3 by omega)
    have b4 := beq_f (show kind ≠ 4 by omega)
    have b5 := beq_f (show kind ≠ 5 by omega)
    have b6 := beq_f (show kind ≠ 6 by omega)
    have b7 := beq_f (show kind ≠ 7 by omega)
    clear h hf
    go_enter Try.func61, Try.ntmps61
    go_wp2
    go_ret
    exact ⟨_, rfl, World.ownsRow_nil _ _ _ _, Ext.refl w⟩
  · exact ref04_all_1 w
  · exact ref04_all_2 w
  · exact ref04_all_3 w
  · exact ref04_all_4 w
  · exact ref04_all_5 w
  · exact ref04_all_6 w
  · exact ref04_all_7 w

/-- is a spec there at a version -/
def atV (v : Int) (s : SpV) : Bool := decide (1 ≤ v) && decide (v ≤ 3) && decide ((s.since : Int) ≤ v)
theorem specL_eq (kind v : Int) : specL kind v = (formOf kind).filter (atV v) := by
  unfold specL
  by_cases h : 1 ≤ v ∧ v ≤ 3
  · rw [if_pos h]
    congr 1
    funext s
    simp [atV, h.1, h.2]
  · rw [if_neg h]
    symm
    rw [List.filter_eq_nil_iff]
    intro s _
    simp only [atV, Bool.and_eq_true, decide_eq_true_eq]
    omega

set_option maxRecDepth 100000 in
set_option maxHeartbeats 800000 in
theorem ref04_Specs (kind v : Int) (w : World) : Calls Try.prog 43 #[.int .i64 kind, .int .i64 v] w fun e w' => ∃ V, e = .returned V ∧ w'.ownsRow w.heap.size 60 5 V (specL kind v).length (specOf (specL kind v)) ∧ Ext w w' := by
  rw [specL_eq]
  have HA := Lib.hid (fun w => ref04_all kind w)
  have hl := formOf_len kind
  generalize formOf kind = F at *
  have h0 := own_empty w 60 5
  go_enter Try.func43, Try.ntmps43
  go_wp2_with fail
  refine (HA.out _).mono ?_
  rintro e w1 ⟨V, rfl, hown, x1⟩
  obtain ⟨A, c, rfl, _⟩ := own_form hown
  have hS := Ss.of_own hown
  have hAb : ∀ b off, A = some ⟨b, off, none⟩ → b ≠ w.heap.size := by
    rintro b off rfl
    have := own_lt hown
    simp at this
    omega
  have h1 := own_ext h0 x1
  have hx1 : Ext w w1 := ((Ext.refl w).alloc _).trans x1
  have hG := Grow.start w.heap.size w1 (v := .slice (some ⟨w.heap.size, 0, none⟩) 0 0) (by intro k hk; simp [Value.ownBlock] at hk; exact .inl hk.symm)
  have HAb := Lib.hid hAb
  clear hown HA h0 x1 hAb
  generalize hN : F.length = N at *
  have HN := Lib.hid hN; clear hN
  go_wp2
  go_loopw [5, 7] (fun acc i wr => ∃ j : Nat, i = .int .i64 j ∧ j ≤ N ∧ wr.ownsRow w.heap.size 60 5 acc ((F.take j).filter (atV v)).length (specOf ((F.take j).filter (atV v))) ∧ Grow w.heap.size w1 wr acc) (fun _ i _ => N - (intOf i).toNat)
  case atStart => exact ⟨0, rfl, by omega, by simpa [specOf] using h1, hG⟩
  case round =>
    obtain ⟨j, rfl, hj, hown, hg⟩ := hrel
    have hx : Ext w wr := hg.below hx1 (Nat.le_refl _)
    clear h1 hG
    by_cases hjn : j < N
    · have hSr : Ss wr A N F := hg.rd hS HAb.out
      obtain ⟨b, off, rfl, d0, d1, d2, d3, d4⟩ := hSr.at_ hjn
      have hsn := filter_snoc (atV v) F j (by rw [HN.out]; exact hjn)
      have hle : ((F.take j).filter (atV v)).length ≤ j := Nat.le_trans (List.length_filter_le _ _) (List.length_take_le _ _)
      generalize F[j]'(by rw [HN.out]; exact hjn) = f at *
      have Hsn := Lib.hid hsn; clear hsn
      have hszw := hx.size
      have hj0 : (0 : Int) ≤ j := by omega
      have hj1 : (j : Int) < N := by omega
      have hcs : (v < 1 ∧ atV v f = false) ∨ (1 ≤ v ∧ 3 < v ∧ atV v f = false) ∨ (1 ≤ v ∧ v ≤ 3 ∧ v < (f.since : Int) ∧ atV v f = false) ∨ (1 ≤ v ∧ v ≤ 3 ∧ (f.since : Int) ≤ v ∧ atV v f = true) := by
        unfold atV
        by_cases c1 : 1 ≤ v <;> by_cases c2 : v ≤ 3 <;> by_cases c3 : (f.since : Int) ≤ v <;> simp [c1, c2, c3] <;> omega
      rcases hcs with ⟨g1, g2⟩ | ⟨g1, g2, g3⟩ | ⟨g1, g2, g3, g4⟩ | ⟨g1, g2, g3, g4⟩
      · have HG := Lib.hid g2; clear g2
        go_wp2
        go_roundw
        case rel => exact ⟨j + 1, val_int (by omega), by omega, own_to hown (Nat.le_refl _) (by rw [Hsn.out]; simp [HG.out]) (by rw [Hsn.out, specOf_append]; simp [HG.out, specOf]), hg⟩
        case measure => simp [intOf]; omega
      · have HG := Lib.hid g3; clear g3
        go_wp2
        go_roundw
        case rel => exact ⟨j + 1, val_int (by omega), by omega, own_to hown (Nat.le_refl _) (by rw [Hsn.out]; simp [HG.out]) (by rw [Hsn.out, specOf_append]; simp [HG.out, specOf]), hg⟩
        case measure => simp [intOf]; omega
      · have HG := Lib.hid g4; clear g4
        go_wp2
        go_roundw
        case rel => exact ⟨j + 1, val_int (by omega), by omega, own_to hown (Nat.le_refl _) (by rw [Hsn.out]; simp [HG.out]) (by rw [Hsn.out, specOf_append]; simp [HG.out, specOf]), hg⟩
        case measure => simp [intOf]; omega
      · have HG := Lib.hid g4; clear g4
        go_wp2_with (at_builtin; refine wpList_app specT (by omega) _ rfl rfl rfl (hown.alloc _) rfl (rd_at5 _ (.int .i64 f.num) (.int .i64 f.wire) (.int .i64 f.since) (.bool f.need) (.bool f.many) _ _ (by simp)) (scells_one _ _ _ _ _) (by unfold maxLen; omega) (by omega) (by simp; omega) ?_; intro v1 w2 hown1 hg1 hat1)
        go_roundw
        case rel => exact ⟨j + 1, val_int (by omega), by omega, own_to hown1 (Nat.le_refl _) (by rw [Hsn.out]; simp [HG.out]) (by rw [Hsn.out, specOf_append]; simp [HG.out, specOf_one, SpV.cells]), (hg.ext ((Ext.refl _).alloc _)).app hg1 hat1⟩
        case measure => simp [intOf]; omega
    · obtain rfl : j = N := by omega
      go_wp2
      go_ret
      refine ⟨_, rfl, own_to hown (Nat.le_refl _) (by rw [List.take_of_length_le (by rw [HN.out]; exact Nat.le_refl _)]) (by rw [List.take_of_length_le (by rw [HN.out]; exact Nat.le_refl _)]), hx⟩

set_option maxRecDepth 100000 in
set_option maxHeartbeats 800000 in
theorem ref04_Top (kind v : Int) (w : World) : Calls Try.prog 44 #[.int .i64 kind, .int .i64 v] w fun e w' => e = .returned (.int .i64 (topL (specL kind v))) ∧ Ext w w' := by
  have HA := Lib.hid (ref04_Specs kind v w)
  have hl := specL_len kind v
  generalize specL kind v = F at *
  go_enter Try.func44, Try.ntmps44
  go_wp2_with fail
  refine HA.out.mono ?_
  rintro e w1 ⟨V, rfl, hown, x1⟩
  obtain ⟨A, c, rfl, _⟩ := own_form hown
  have hS := Ss.of_own hown
  clear hown HA
  generalize hN : F.length = N at *
  have HN := Lib.hid hN; clear hN
  go_wp2
  go_loopw [5, 7] (fun acc i wr => ∃ j : Nat, i = .int .i64 j ∧ j ≤ N ∧ acc = .int .i64 (topL (F.take j)) ∧ Ext w1 wr) (fun _ i _ => N - (intOf i).toNat)
  case atStart => exact ⟨0, rfl, by omega, rfl, Ext.refl _⟩
  case round =>
    obtain ⟨j, rfl, hj, rfl, hx⟩ := hrel
    by_cases hjn : j < N
    · obtain ⟨b, off, rfl, d0, d1, d2, d3, d4⟩ := (hS.ext hx).at_ hjn
      have hsn := topL_snoc F j (by rw [HN.out]; exact hjn)
      generalize F[j]'(by rw [HN.out]; exact hjn) = f at *
      have Hsn := Lib.hid hsn; clear hsn
      have hj0 : (0 : Int) ≤ j := by omega
      have hj1 : (j : Int) < N := by omega
      go_wp2
      go_roundw
      case rel => exact ⟨j + 1, val_int (by omega), by omega, by rw [Hsn.out]; exact val_int (by omega), hx⟩
      case measure => simp [intOf]; omega
    · obtain rfl : j = N := by omega
      go_wp2
      go_ret
      exact ⟨by rw [List.take_of_length_le (by rw [HN.out]; exact Nat.le_refl _)]; rfl, x1.trans hx⟩

/-- Same of rows that are alike -/
theorem run_neq_spec (f : SpV) (w : World) : (binOp .neq 60 (.agg #[.int .i64 f.num, .int .i64 f.wire, .int .i64 f.since, .bool f.need, .bool f.many]) (.agg #[.int .i64 f.num, .int .i64 f.wire, .int .i64 f.since, .bool f.need, .bool f.many])).run Try.prog w = .ok (.bool false) w := by
  simp [go_sem]

set_option maxRecDepth 100000 in
set_option maxHeartbeats 800000 in
theorem ref04_Same (A A' : Option Addr) (n c c' : Nat) (l : List SpV) (w : World) (h1 : Ss w A n l) (h2 : Ss w A' n l) (hn : n ≤ 1000) :
    Calls Try.prog 42 #[.slice A n c, .slice A' n c'] w fun e w' => e = .returned (.bool true) ∧ Ext w w' := by
  have hlen := h1.len
  go_enter Try.func42, Try.ntmps42
  go_wp2
  go_loopw [5] (fun i wr => ∃ j : Nat, i = .int .i64 j ∧ j ≤ n ∧ Ext w wr) (fun i _ => n - (intOf i).toNat)
  case atStart => exact ⟨0, rfl, by omega, Ext.refl w⟩
  case round =>
    obtain ⟨j, rfl, hj, hx⟩ := hrel
    by_cases hjn : j < n
    · obtain ⟨b, off, rfl, c0, c1, c2, c3, c4⟩ := (h1.ext hx).at_ hjn
      obtain ⟨b', off', rfl, d0, d1, d2, d3, d4⟩ := (h2.ext hx).at_ hjn
      generalize l[j] = f at *
      have hj0 : (0 : Int) ≤ j := by omega
      have hj1 : (j : Int) < n := by omega
      clear h1 h2 hlen
      go_wp2
      go_quiet (fail)
      go_wp2
      go_roundw
      case rel => exact ⟨j + 1, val_int (by omega), by omega, hx.drewN _⟩
      case measure => simp [intOf]; omega
    · obtain rfl : j = n := by omega
      go_wp2
      go_ret
      exact ⟨rfl, hx⟩

set_option maxRecDepth 100000 in
set_option maxHeartbeats 800000 in
theorem law04_shown (w : World) : Calls Try.prog 39 #[] w fun e w' => e = .returned (.bool true) ∧ Ext w w' := by
  have T1 := Lib.hid (fun w => forms_Top 2 1 w)
  have T2 := Lib.hid (fun w => forms_Top 2 3 w)
  have T3 := Lib.hid (fun w => forms_Specs 3 2 w)
  rw [show topL (specL 2 1) = 3 by decide] at T1
  rw [show topL (specL 2 3) = 5 by decide] at T2
  rw [show (specL 3 2).length = 2 by decide] at T3
  go_enter Try.func39, Try.ntmps39
  go_wp2_with fail
  refine (T1.out _).mono ?_
  rintro e w1 ⟨rfl, x1⟩
  go_wp2_with fail
  refine (T2.out _).mono ?_
  rintro e w2 ⟨rfl, x2⟩
  go_wp2_with fail
  refine (T3.out _).mono ?_
  rintro e w3 ⟨V, rfl, hown, x3⟩
  obtain ⟨A, c, rfl, _⟩ := own_form hown
  have hx := (x1.trans x2).trans x3
  clear hown x1 x2 x3
  go_wp2
  go_ret
  exact ⟨rfl, hx⟩
end Go.Proofs.Ytjfohlnkdagjcaa
