/- Words and walks that the last text of this claim stands on: FormC, ChkB. No condition. -/
import Derived.Test.YtcoaofaofmbfbaaB09
import Derived.Test.YtcoaofaofmbfbaaB22
import Derived.BigGuardPart
/- The walks of the reference's specs, and of the laws' head of layer 4. -/
namespace Go.Proofs.Ytcoaofaofmbfbaa
open Go.RowKit

set_option maxRecDepth 100000 in
theorem ref04_number (num since : Int) (need : Bool) (w : World) : Calls Try.prog 108 #[.int .i64 num, .int .i64 since, .bool need] w fun e w' => e = .returned (.agg #[.int .i64 num, .int .i64 0, .int .i64 since, .bool need, .bool false]) ∧ Ext w w' := by
  go_enter Try.func108, Try.ntmps108
  go_wp2
  refine bodyPost_ret (v := .agg #[.int .i64 num, .int .i64 0, .int .i64 since, .bool need, .bool false]) (by simp [results, Try.results108, go_sem]) rfl ⟨rfl, ?_⟩
  repeat (refine Ext.setCell ?_ (by simp) _)
  exact (Ext.refl w).alloc _
set_option maxRecDepth 100000 in
theorem ref04_bytes (num since : Int) (need many : Bool) (w : World) : Calls Try.prog 109 #[.int .i64 num, .int .i64 since, .bool need, .bool many] w fun e w' => e = .returned (.agg #[.int .i64 num, .int .i64 2, .int .i64 since, .bool need, .bool many]) ∧ Ext w w' := by
  go_enter Try.func109, Try.ntmps109
  go_wp2
  refine bodyPost_ret (v := .agg #[.int .i64 num, .int .i64 2, .int .i64 since, .bool need, .bool many]) (by simp [results, Try.results109, go_sem]) rfl ⟨rfl, ?_⟩
  repeat (refine Ext.setCell ?_ (by simp) _)
  exact (Ext.refl w).alloc _

set_option maxRecDepth 100000 in
set_option maxHeartbeats 800000 in
theorem ref04_all_1 (w : World) : Calls Try.prog 100 #[.int .i64 1] w fun e w' => ∃ v, e = .returned v ∧ w'.ownsRow w.heap.size 108 5 v (formOf 1).length (specOf (formOf 1)) ∧ Ext w w' := by
  have hx := Ext.refl w
  go_enter Try.func100, Try.ntmps100
  go_wp2_with (first
    | (go_at_call 108; refine (ref04_number _ _ _ _).mono ?_; rintro e w9 ⟨rfl, x9⟩; replace hx := hx.trans x9; clear x9)
    | (go_at_call 109; refine (ref04_bytes _ _ _ _ _).mono ?_; rintro e w9 ⟨rfl, x9⟩; replace hx := hx.trans x9; clear x9))
  go_ret
  exact ⟨_, rfl, own_to (own_blk _ _ _ 5 8 rfl (by omega) hx.size _ rfl) (Nat.le_refl _) rfl rfl, hx.alloc _⟩

set_option maxRecDepth 100000 in
set_option maxHeartbeats 800000 in
theorem ref04_all_2 (w : World) : Calls Try.prog 100 #[.int .i64 2] w fun e w' => ∃ v, e = .returned v ∧ w'.ownsRow w.heap.size 108 5 v (formOf 2).length (specOf (formOf 2)) ∧ Ext w w' := by
  have hx := Ext.refl w
  go_enter Try.func100, Try.ntmps100
  go_wp2_with (first
    | (go_at_call 108; refine (ref04_number _ _ _ _).mono ?_; rintro e w9 ⟨rfl, x9⟩; replace hx := hx.trans x9; clear x9)
    | (go_at_call 109; refine (ref04_bytes _ _ _ _ _).mono ?_; rintro e w9 ⟨rfl, x9⟩; replace hx := hx.trans x9; clear x9))
  go_ret
  exact ⟨_, rfl, own_to (own_blk _ _ _ 5 5 rfl (by omega) hx.size _ rfl) (Nat.le_refl _) rfl rfl, hx.alloc _⟩

set_option maxRecDepth 100000 in
set_option maxHeartbeats 800000 in
theorem ref04_all_3 (w : World) : Calls Try.prog 100 #[.int .i64 3] w fun e w' => ∃ v, e = .returned v ∧ w'.ownsRow w.heap.size 108 5 v (formOf 3).length (specOf (formOf 3)) ∧ Ext w w' := by
  have hx := Ext.refl w
  go_enter Try.func100, Try.ntmps100
  go_wp2_with (first
    | (go_at_call 108; refine (ref04_number _ _ _ _).mono ?_; rintro e w9 ⟨rfl, x9⟩; replace hx := hx.trans x9; clear x9)
    | (go_at_call 109; refine (ref04_bytes _ _ _ _ _).mono ?_; rintro e w9 ⟨rfl, x9⟩; replace hx := hx.trans x9; clear x9))
  go_ret
  exact ⟨_, rfl, own_to (own_blk _ _ _ 5 2 rfl (by omega) hx.size _ rfl) (Nat.le_refl _) rfl rfl, hx.alloc _⟩

set_option maxRecDepth 100000 in
set_option maxHeartbeats 800000 in
theorem ref04_all_4 (w : World) : Calls Try.prog 100 #[.int .i64 4] w fun e w' => ∃ v, e = .returned v ∧ w'.ownsRow w.heap.size 108 5 v (formOf 4).length (specOf (formOf 4)) ∧ Ext w w' := by
  have hx := Ext.refl w
  go_enter Try.func100, Try.ntmps100
  go_wp2_with (first
    | (go_at_call 108; refine (ref04_number _ _ _ _).mono ?_; rintro e w9 ⟨rfl, x9⟩; replace hx := hx.trans x9; clear x9)
    | (go_at_call 109; refine (ref04_bytes _ _ _ _ _).mono ?_; rintro e w9 ⟨rfl, x9⟩; replace hx := hx.trans x9; clear x9))
  go_ret
  exact ⟨_, rfl, own_to (own_blk _ _ _ 5 4 rfl (by omega) hx.size _ rfl) (Nat.le_refl _) rfl rfl, hx.alloc _⟩

set_option maxRecDepth 100000 in
set_option maxHeartbeats 800000 in
theorem ref04_all_5 (w : World) : Calls Try.prog 100 #[.int .i64 5] w fun e w' => ∃ v, e = .returned v ∧ w'.ownsRow w.heap.size 108 5 v (formOf 5).length (specOf (formOf 5)) ∧ Ext w w' := by
  have hx := Ext.refl w
  go_enter Try.func100, Try.ntmps100
  go_wp2_with (first
    | (go_at_call 108; refine (ref04_number _ _ _ _).mono ?_; rintro e w9 ⟨rfl, x9⟩; replace hx := hx.trans x9; clear x9)
    | (go_at_call 109; refine (ref04_bytes _ _ _ _ _).mono ?_; rintro e w9 ⟨rfl, x9⟩; replace hx := hx.trans x9; clear x9))
  go_ret
  exact ⟨_, rfl, own_to (own_blk _ _ _ 5 7 rfl (by omega) hx.size _ rfl) (Nat.le_refl _) rfl rfl, hx.alloc _⟩

set_option maxRecDepth 100000 in
set_option maxHeartbeats 800000 in
theorem ref04_all_6 (w : World) : Calls Try.prog 100 #[.int .i64 6] w fun e w' => ∃ v, e = .returned v ∧ w'.ownsRow w.heap.size 108 5 v (formOf 6).length (specOf (formOf 6)) ∧ Ext w w' := by
  have hx := Ext.refl w
  go_enter Try.func100, Try.ntmps100
  go_wp2_with (first
    | (go_at_call 108; refine (ref04_number _ _ _ _).mono ?_; rintro e w9 ⟨rfl, x9⟩; replace hx := hx.trans x9; clear x9)
    | (go_at_call 109; refine (ref04_bytes _ _ _ _ _).mono ?_; rintro e w9 ⟨rfl, x9⟩; replace hx := hx.trans x9; clear x9))
  go_ret
  exact ⟨_, rfl, own_to (own_blk _ _ _ 5 10 rfl (by omega) hx.size _ rfl) (Nat.le_refl _) rfl rfl, hx.alloc _⟩

set_option maxRecDepth 100000 in
set_option maxHeartbeats 800000 in
theorem ref04_all_7 (w : World) : Calls Try.prog 100 #[.int .i64 7] w fun e w' => ∃ v, e = .returned v ∧ w'.ownsRow w.heap.size 108 5 v (formOf 7).length (specOf (formOf 7)) ∧ Ext w w' := by
  have hx := Ext.refl w
  go_enter Try.func100, Try.ntmps100
  go_wp2_with (first
    | (go_at_call 108; refine (ref04_number _ _ _ _).mono ?_; rintro e w9 ⟨rfl, x9⟩; replace hx := hx.trans x9; clear x9)
    | (go_at_call 109; refine (ref04_bytes _ _ _ _ _).mono ?_; rintro e w9 ⟨rfl, x9⟩; replace hx := hx.trans x9; clear x9))
  go_ret
  exact ⟨_, rfl, own_to (own_blk _ _ _ 5 2 rfl (by omega) hx.size _ rfl) (Nat.le_refl _) rfl rfl, hx.alloc _⟩

set_option maxRecDepth 100000 in
set_option maxHeartbeats 800000 in
theorem ref04_all (kind : Int) (w : World) : Calls Try.prog 100 #[.int .i64 kind] w fun e w' => ∃ v, e = .returned v ∧ w'.ownsRow w.heap.size 108 5 v (formOf kind).length (specOf (formOf kind)) ∧ Ext w w' := by
  rcases formOf_cases kind with ⟨h, hf⟩ | rfl | rfl | rfl | rfl | rfl | rfl | rfl
  · rw [hf]
    have b1 := beq_f (show kind ≠ 1 by omega)
    have b2 := beq_f (show kind ≠ 2 by omega)
    have b3 := beq_f (show kind ≠ 3 by omega)
    have b4 := beq_f (show kind ≠ 4 by omega)
    have b5 := beq_f (show kind ≠ 5 by omega)
    have b6 := beq_f (show kind ≠ 6 by omega)
    have b7 := beq_f (show kind ≠ 7 by omega)
    clear h hf
    go_enter Try.func100, Try.ntmps100
    go_wp2
    go_ret
    exact ⟨_, rfl, World.ownsRow_nil _ _ _ _, Ext.refl w⟩
  · exact ref04_all_1 w
  · exact ref04_all_2 w
  · exact ref04_all_3 w
  · exact ref04_all_4 w
  · exact ref04_all_5 w
  · exact ref04_all_6 w
  · exact ref04_all_7 w

/-- is a spec there at a version -/
def atV (v : Int) (s : SpV) : Bool := decide (1 ≤ v) && decide (v ≤ 3) && decide ((s.since : Int) ≤ v)
theorem specL_eq (kind v : Int) : specL kind v = (formOf kind).filter (atV v) := by
  unfold specL
  by_cases h : 1 ≤ v ∧ v ≤ 3
  · rw [if_pos h]
    congr 1
    funext s
    simp [atV, h.1, h.2]
  · rw [if_neg h]
    symm
    rw [List.filter_eq_nil_iff]
    intro s _
    simp only [atV, Bool.and_eq_true, decide_eq_true_eq]
    omega

set_option maxRecDepth 100000 in
set_option maxHeartbeats 800000 in
theorem ref04_Specs (kind v : Int) (w : World) : Calls Try.prog 82 #[.int .i64 kind, .int .i64 v] w fun e w' => ∃ V, e = .returned V ∧ w'.ownsRow w.heap.size 108 5 V (specL kind v).length (specOf (specL kind v)) ∧ Ext w w' := by
  rw [specL_eq]
  have HA := Lib.hid (fun w => ref04_all kind w)
  have hl := formOf_len kind
  generalize formOf kind = F at *
  have h0 := own_empty w 108 5
  go_enter Try.func82, Try.ntmps82
  go_wp2_with fail
  refine (HA.out _).mono ?_
  rintro e w1 ⟨V, rfl, hown, x1⟩
  obtain ⟨A, c, rfl, _⟩ := own_form hown
  have hS := Ss.of_own hown
  have hAb : ∀ b off, A = some ⟨b, off, none⟩ → b ≠ w.heap.size := by
    rintro b off rfl
    have := own_lt hown
    simp at this
    omega
  have h1 := own_ext h0 x1
  have hx1 : Ext w w1 := ((Ext.refl w).alloc _).trans x1
  have hG := Grow.start w.heap.size w1 (v := .slice (some ⟨w.heap.size, 0, none⟩) 0 0) (by intro k hk; simp [Value.ownBlock] at hk; exact .inl hk.symm)
  have HAb := Lib.hid hAb
  clear hown HA h0 x1 hAb
  generalize hN : F.length = N at *
  have HN := Lib.hid hN; clear hN
  go_wp2
  go_loopw [5, 7] (fun acc i wr => ∃ j : Nat, i = .int .i64 j ∧ j ≤ N ∧ wr.ownsRow w.heap.size 108 5 acc ((F.take j).filter (atV v)).length (specOf ((F.take j).filter (atV v))) ∧ Grow w.heap.size w1 wr acc) (fun _ i _ => N - (intOf i).toNat)
  case atStart => exact ⟨0, rfl, by omega, by simpa [specOf] using h1, hG⟩
  case round =>
    obtain ⟨j, rfl, hj, hown, hg⟩ := hrel
    have hx : Ext w wr := hg.below hx1 (Nat.le_refl _)
    clear h1 hG
    by_cases hjn : j < N
    · have hSr : Ss wr A N F := hg.rd hS HAb.out
      obtain ⟨b, off, rfl, d0, d1, d2, d3, d4⟩ := hSr.at_ hjn
      have hsn := filter_snoc (atV v) F j (by rw [HN.out]; exact hjn)
      have hle : ((F.take j).filter (atV v)).length ≤ j := Nat.le_trans (List.length_filter_le _ _) (List.length_take_le _ _)
      generalize F[j]'(by rw [HN.out]; exact hjn) = f at *
      have Hsn := Lib.hid hsn; clear hsn
      have hszw := hx.size
      have hj0 : (0 : Int) ≤ j := by omega
      have hj1 : (j : Int) < N := by omega
      have hcs : (v < 1 ∧ atV v f = false) ∨ (1 ≤ v ∧ 3 < v ∧ atV v f = false) ∨ (1 ≤ v ∧ v ≤ 3 ∧ v < (f.since : Int) ∧ atV v f = false) ∨ (1 ≤ v ∧ v ≤ 3 ∧ (f.since : Int) ≤ v ∧ atV v f = true) := by
        unfold atV
        by_cases c1 : 1 ≤ v <;> by_cases c2 : v ≤ 3 <;> by_cases c3 : (f.since : Int) ≤ v <;> simp [c1, c2, c3] <;> omega
      rcases hcs with ⟨g1, g2⟩ | ⟨g1, g2, g3⟩ | ⟨g1, g2, g3, g4⟩ | ⟨g1, g2, g3, g4⟩
      · have HG := Lib.hid g2; clear g2
        go_wp2
        go_roundw
        case rel => exact ⟨j + 1, val_int (by omega), by omega, own_to hown (Nat.le_refl _) (by rw [Hsn.out]; simp [HG.out]) (by rw [Hsn.out, specOf_append]; simp [HG.out, specOf]), hg⟩
        case measure => simp [intOf]; omega
      · have HG := Lib.hid g3; clear g3
        go_wp2
        go_roundw
        case rel => exact ⟨j + 1, val_int (by omega), by omega, own_to hown (Nat.le_refl _) (by rw [Hsn.out]; simp [HG.out]) (by rw [Hsn.out, specOf_append]; simp [HG.out, specOf]), hg⟩
        case measure => simp [intOf]; omega
      · have HG := Lib.hid g4; clear g4
        go_wp2
        go_roundw
        case rel => exact ⟨j + 1, val_int (by omega), by omega, own_to hown (Nat.le_refl _) (by rw [Hsn.out]; simp [HG.out]) (by rw [Hsn.out, specOf_append]; simp [HG.out, specOf]), hg⟩
        case measure => simp [intOf]; omega
      · have HG := Lib.hid g4; clear g4
        go_wp2_with (at_builtin; refine wpList_app specT (by omega) _ rfl rfl rfl (hown.alloc _) rfl (rd_at5 _ (.int .i64 f.num) (.int .i64 f.wire) (.int .i64 f.since) (.bool f.need) (.bool f.many) _ _ (by simp)) (scells_one _ _ _ _ _) (by unfold maxLen; omega) (by omega) (by simp; omega) ?_; intro v1 w2 hown1 hg1 hat1)
        go_roundw
        case rel => exact ⟨j + 1, val_int (by omega), by omega, own_to hown1 (Nat.le_refl _) (by rw [Hsn.out]; simp [HG.out]) (by rw [Hsn.out, specOf_append]; simp [HG.out, specOf_one, SpV.cells]), (hg.ext ((Ext.refl _).alloc _)).app hg1 hat1⟩
        case measure => simp [intOf]; omega
    · obtain rfl : j = N := by omega
      go_wp2
      go_ret
      refine ⟨_, rfl, own_to hown (Nat.le_refl _) (by rw [List.take_of_length_le (by rw [HN.out]; exact Nat.le_refl _)]) (by rw [List.take_of_length_le (by rw [HN.out]; exact Nat.le_refl _)]), hx⟩

set_option maxRecDepth 100000 in
set_option maxHeartbeats 800000 in
theorem ref04_Top (kind v : Int) (w : World) : Calls Try.prog 56 #[.int .i64 kind, .int .i64 v] w fun e w' => e = .returned (.int .i64 (topL (specL kind v))) ∧ Ext w w' := by
  have HA := Lib.hid (ref04_Specs kind v w)
  have hl := specL_len kind v
  generalize specL kind v = F at *
  go_enter Try.func56, Try.ntmps56
  go_wp2_with fail
  refine HA.out.mono ?_
  rintro e w1 ⟨V, rfl, hown, x1⟩
  obtain ⟨A, c, rfl, _⟩ := own_form hown
  have hS := Ss.of_own hown
  clear hown HA
  generalize hN : F.length = N at *
  have HN := Lib.hid hN; clear hN
  go_wp2
  go_loopw [5, 7] (fun acc i wr => ∃ j : Nat, i = .int .i64 j ∧ j ≤ N ∧ acc = .int .i64 (topL (F.take j)) ∧ Ext w1 wr) (fun _ i _ => N - (intOf i).toNat)
  case atStart => exact ⟨0, rfl, by omega, rfl, Ext.refl _⟩
  case round =>
    obtain ⟨j, rfl, hj, rfl, hx⟩ := hrel
    by_cases hjn : j < N
    · obtain ⟨b, off, rfl, d0, d1, d2, d3, d4⟩ := (hS.ext hx).at_ hjn
      have hsn := topL_snoc F j (by rw [HN.out]; exact hjn)
      generalize F[j]'(by rw [HN.out]; exact hjn) = f at *
      have Hsn := Lib.hid hsn; clear hsn
      have hj0 : (0 : Int) ≤ j := by omega
      have hj1 : (j : Int) < N := by omega
      go_wp2
      go_roundw
      case rel => exact ⟨j + 1, val_int (by omega), by omega, by rw [Hsn.out]; exact val_int (by omega), hx⟩
      case measure => simp [intOf]; omega
    · obtain rfl : j = N := by omega
      go_wp2
      go_ret
      exact ⟨by rw [List.take_of_length_le (by rw [HN.out]; exact Nat.le_refl _)]; rfl, x1.trans hx⟩

/-- Same of rows that are alike -/
theorem run_neq_spec (f : SpV) (w : World) : (binOp .neq 108 (.agg #[.int .i64 f.num, .int .i64 f.wire, .int .i64 f.since, .bool f.need, .bool f.many]) (.agg #[.int .i64 f.num, .int .i64 f.wire, .int .i64 f.since, .bool f.need, .bool f.many])).run Try.prog w = .ok (.bool false) w := by
  simp [go_sem]

end Go.Proofs.Ytcoaofaofmbfbaa

/- The walk of coracleref04.Check. -/
namespace Go.Proofs.Ytcoaofaofmbfbaa
open Go.RowKit

theorem formOf_wire (kind : Int) : ∀ s ∈ formOf kind, s.wire = 0 ∨ s.wire = 2 := by
  rcases formOf_cases kind with ⟨_, h⟩ | rfl | rfl | rfl | rfl | rfl | rfl | rfl
  · rw [h]; simp
  all_goals decide
theorem specL_wire (kind v : Int) : ∀ s ∈ specL kind v, s.wire = 0 ∨ s.wire = 2 := by
  unfold specL; split
  · intro s hs; exact formOf_wire kind s (List.mem_filter.1 hs).1
  · simp
theorem one_bad {s : SpV} {l : List FV} {j : Nat} (hj : j < l.length) (hn : l[j].num = (s.num : Int)) (h : (decide (l[j].wire = (s.wire : Int)) && fullB l[j]) = false) : specB s l = false := by
  have : oneB s l = false := by
    unfold oneB
    rw [List.all_eq_false]
    exact ⟨l[j], List.getElem_mem _, by simp [hn, h]⟩
  unfold specB
  rw [this, Bool.false_and]
theorem one_good {s : SpV} {l : List FV} (h : ∀ j (hj : j < l.length), l[j].num = (s.num : Int) → (decide (l[j].wire = (s.wire : Int)) && fullB l[j]) = true) : oneB s l = true := by
  unfold oneB
  rw [List.all_eq_true]
  intro f hf
  obtain ⟨j, hj, rfl⟩ := List.getElem_of_mem hf
  by_cases e : l[j].num = (s.num : Int)
  · have := h j hj e
    simp [e, this]
  · simp [e]

set_option maxRecDepth 100000 in
set_option maxHeartbeats 6400000 in
theorem ref04_Check (kind v : Int) (A : Option Addr) (n c : Nat) (l : List FV) (w : World) (hf : Fs w A n l) (hn : n ≤ 20000) :
    Calls Try.prog 60 #[.int .i64 kind, .int .i64 v, .slice A n c] w fun e w' => e = .returned (.int .i64 (checkN (specL kind v) l)) ∧ Ext w w' := by
  have hlen := hf.len
  have HS := Lib.hid (fun w => ref04_Specs kind v w)
  have HM := Lib.hid (fun (w' : World) (h : Ext w w') => ref03_May A n c l w' (hf.ext h) hn)
  have hN10 := specL_len kind v
  have hnum := specL_num kind v
  have hwire := specL_wire kind v
  generalize specL kind v = S at *
  have HNum := Lib.hid hnum; clear hnum
  have HWire := Lib.hid hwire; clear hwire
  by_cases hS : S = []
  · rw [show checkN S l = 1 by simp [checkN, hS]]
    subst hS
    go_enter Try.func60, Try.ntmps60
    go_wp2_with fail
    refine (HS.out _).mono ?_
    rintro e w1 ⟨V, rfl, hown, x1⟩
    obtain ⟨B, cc, rfl, _⟩ := own_form hown
    clear hown
    go_wp2
    go_ret
    exact ⟨rfl, x1⟩
  by_cases hM : fmay l = 0
  rotate_left
  · rw [show checkN S l = fmay l by simp [checkN, hS, hM]]
    have hl0 : (S.length : Int) ≠ 0 := by
      have : S.length ≠ 0 := fun h => hS (List.eq_nil_of_length_eq_zero h)
      omega
    have g0 := beq_f hl0
    have g1 := bne_t (show ((fmay l : Nat) : Int) ≠ 0 by omega)
    clear hS hM hl0
    go_enter Try.func60, Try.ntmps60
    go_wp2_with fail
    refine (HS.out _).mono ?_
    rintro e w1 ⟨V, rfl, hown, x1⟩
    obtain ⟨B, cc, rfl, _⟩ := own_form hown
    clear hown
    go_wp2_with fail
    refine (HM.out _ x1).mono ?_
    rintro e w2 ⟨rfl, x2⟩
    go_wp2
    go_ret
    exact ⟨rfl, x1.trans x2⟩
  obtain ⟨hal, _⟩ := fmay_ok hM
  have HAL := Lib.hid hal; clear hal
  have hcn : checkN S l = if okB S l = true then 0 else 6 := by simp [checkN, hS, hM]
  have HCN := Lib.hid hcn; clear hcn
  rw [hM] at HM
  have hSl : S.length ≠ 0 := fun h => hS (List.eq_nil_of_length_eq_zero h)
  clear hS hM
  generalize hN : S.length = N at *
  have HN := Lib.hid hN; clear hN
  have g0 := beq_f (show (N : Int) ≠ 0 by omega)
  go_enter Try.func60, Try.ntmps60
  go_wp2_with fail
  refine (HS.out _).mono ?_
  rintro e w1 ⟨V, rfl, hown, x1⟩
  obtain ⟨B, cc, rfl, _⟩ := own_form hown
  have hSs := Ss.of_own hown
  clear hown
  go_wp2_with fail
  refine (HM.out _ x1).mono ?_
  rintro e w2 ⟨rfl, x2⟩
  have hSs2 := hSs.ext x2
  have hf2 := hf.ext (x1.trans x2)
  have hx2 := x1.trans x2
  clear HS HM hSs hf x1 x2
  go_wp2
  go_loopw [9] (fun i wr => ∃ q : Nat, i = .int .i64 q ∧ q ≤ N ∧ Ext w2 wr ∧ (∀ q' (hq' : q' < S.length), q' < q → specB S[q'] l = true)) (fun i _ => N - (intOf i).toNat)
  case atStart => exact ⟨0, rfl, by omega, Ext.refl _, fun q' _ h => absurd h (by omega)⟩
  case round =>
    obtain ⟨q, rfl, hq, hx, hgood⟩ := hrel
    obtain ⟨wo, rfl⟩ : ∃ wo : World, wo = wr := ⟨_, rfl⟩
    have HG := Lib.hid hgood; clear hgood
    by_cases hqn : q < N
    · have hqS : q < S.length := by rw [HN.out]; exact hqn
      obtain ⟨sb, soff, rfl, e0, e1, e2, e3, e4⟩ := (hSs2.ext hx).at_ hqn
      have hsw := HWire.out S[q] (List.getElem_mem _)
      have hbad := fun (h : specB (S[q]'hqS) l = false) => okB_false (S := S) (l := l) (s := S[q]'hqS) (List.getElem_mem _) h
      obtain ⟨s, hsq⟩ : ∃ s, S[q]'hqS = s := ⟨_, rfl⟩
      simp only [hsq] at hsw hbad e0 e1 e2 e3 e4
      have Hsq := Lib.hid hsq; clear hsq
      have HB := Lib.hid hbad; clear hbad
      have hB0 := Blk.new wo 108 [.int .i64 s.num, .int .i64 s.wire, .int .i64 s.since, .bool s.need, .bool s.many]
      have hxa : Ext w2 (wo.alloc (.cells #[.int .i64 s.num, .int .i64 s.wire, .int .i64 s.since, .bool s.need, .bool s.many] 108)) := hx.alloc _
      have hj0 : (0 : Int) ≤ q := by omega
      have hj1 : (q : Int) < N := by omega
      go_wp2
      generalize hW3 : (wo.alloc (.cells #[.int .i64 s.num, .int .i64 s.wire, .int .i64 s.since, .bool s.need, .bool s.many] 108)) = w3 at *
      clear hW3 e0 e1 e2 e3 e4
      go_loopw [11, 12] (fun m i wr => ∃ k : Nat, i = .int .i64 k ∧ k ≤ n ∧ m = .int .i64 (cnt s.num (l.take k)) ∧ Ext w3 wr ∧ (∀ i (hi : i < l.length), i < k → l[i].num = (s.num : Int) → (decide (l[i].wire = (s.wire : Int)) && fullB l[i]) = true)) (fun _ i _ => n - (intOf i).toNat)
      case atStart => exact ⟨0, rfl, by omega, rfl, Ext.refl _, fun i _ h => absurd h (by omega)⟩
      case round =>
        obtain ⟨k, rfl, hk, rfl, hxi, hgi⟩ := hrel
        have HGI := Lib.hid hgi; clear hgi
        have hBs := hB0.ext hxi
        have s0 := hBs.cell 0
        have s1 := hBs.cell 1
        have s3 := hBs.cell 3
        have s4 := hBs.cell 4
        simp only [List.getElem?_cons_zero, List.getElem?_cons_succ] at s0 s1 s3 s4
        have hltS := hBs.lt
        clear hBs
        by_cases hkn : k < n
        · obtain ⟨b, off, rfl, d0, d1, d2, d3⟩ := (hf2.ext (hxa.trans hxi)).at_ hkn
          have hkl : k < l.length := by omega
          have hal := HAL.out (l[k]'hkl) (List.getElem_mem _)
          have hsn := cnt_snoc (s.num : Int) l k hkl
          have hbad := one_bad (s := s) (l := l) (j := k) hkl
          have hcl := cnt_le (s.num : Int) (l.take k)
          rw [List.length_take] at hcl
          obtain ⟨f, hfk⟩ : ∃ f, l[k]'hkl = f := ⟨_, rfl⟩
          simp only [hfk] at hal hsn hbad d0 d1 d2 d3
          have Hfk := Lib.hid hfk; clear hfk
          have halt := (alone_true hal.1).2
          clear hal
          have Hsn := Lib.hid hsn; clear hsn
          have HBd := Lib.hid hbad; clear hbad
          obtain ⟨num, wire, fn, fA, flen, fcap, fb⟩ := f
          dsimp only at halt d0 d1 d2 d3
          have hk0 : (0 : Int) ≤ k := by omega
          have hk1 : (k : Int) < n := by omega
          generalize hct : cnt (s.num : Int) (l.take k) = ct at *
          by_cases hnm : num = (s.num : Int)
          · subst hnm
            have hsw' := hsw
            have hs1 := s1
            rcases halt with ⟨rfl, rfl⟩ | ⟨rfl, rfl⟩
            · rcases hsw with hsw | hsw
              · rw [hsw] at s1
                by_cases e : fn = 0
                · subst e
                  have hspec := HBd.out rfl (by simp [fullB, hsw])
                  have HF := Lib.hid (HB.out hspec)
                  clear hspec hsw hsw' hs1 hct
                  go_wp2
                  go_quiet (fail)
                  go_wp2
                  go_quiet (fail)
                  go_wp2
                  go_ret
                  exact ⟨by rw [HCN.out, HF.out]; rfl, hx2.trans (hxa.trans ((hxi.drewN _).drewN _))⟩
                · have g2 := beq_f (show ((fn : Nat) : Int) ≠ 0 by omega)
                  have hT : (decide (((0 : Int)) = (s.wire : Int)) && fullB ⟨(s.num : Int), 0, fn, fA, 0, fcap, fb⟩) = true := by simp [fullB, hsw]; omega
                  have HT := Lib.hid hT
                  clear hT hsw hsw' hs1 hct e
                  go_wp2
                  go_quiet (fail)
                  go_wp2
                  go_quiet (fail)
                  go_wp2
                  go_roundw
                  case rel => exact ⟨k + 1, val_int (by omega), by omega, by rw [Hsn.out, if_pos trivial]; exact val_int (by omega), hxi.drewN _, fun i hi hlt hn' => by
                    rcases Nat.lt_succ_iff_lt_or_eq.1 hlt with h | rfl
                    · exact HGI.out i hi h hn'
                    · rw [Hfk.out]; exact HT.out⟩
                  case measure => simp [intOf]; omega
              · rw [hsw] at s1
                have hspec := HBd.out rfl (by simp [fullB, hsw])
                have HF := Lib.hid (HB.out hspec)
                clear hspec hsw hsw' hs1 hct
                go_wp2
                go_quiet (fail)
                go_wp2
                go_quiet (fail)
                go_wp2
                go_ret
                exact ⟨by rw [HCN.out, HF.out]; rfl, hx2.trans (hxa.trans ((hxi.drewN _).drewN _))⟩
            · rcases hsw with hsw | hsw
              · rw [hsw] at s1
                have hspec := HBd.out rfl (by simp [fullB, hsw])
                have HF := Lib.hid (HB.out hspec)
                clear hspec hsw hsw' hs1 hct
                go_wp2
                go_quiet (fail)
                go_wp2
                go_quiet (fail)
                go_wp2
                go_ret
                exact ⟨by rw [HCN.out, HF.out]; rfl, hx2.trans (hxa.trans ((hxi.drewN _).drewN _))⟩
              · rw [hsw] at s1
                by_cases e : flen = 0
                · subst e
                  have hspec := HBd.out rfl (by simp [fullB, hsw])
                  have HF := Lib.hid (HB.out hspec)
                  clear hspec hsw hsw' hs1 hct
                  go_wp2
                  go_quiet (fail)
                  go_wp2
                  go_quiet (fail)
                  go_wp2
                  go_ret
                  exact ⟨by rw [HCN.out, HF.out]; rfl, hx2.trans (hxa.trans ((hxi.drewN _).drewN _))⟩
                · have g2 := beq_f (show ((flen : Nat) : Int) ≠ 0 by omega)
                  have hT : (decide (((2 : Int)) = (s.wire : Int)) && fullB ⟨(s.num : Int), 2, 0, fA, flen, fcap, fb⟩) = true := by simp [fullB, hsw]; omega
                  have HT := Lib.hid hT
                  clear hT hsw hsw' hs1 hct e
                  go_wp2
                  go_quiet (fail)
                  go_wp2
                  go_quiet (fail)
                  go_wp2
                  go_roundw
                  case rel => exact ⟨k + 1, val_int (by omega), by omega, by rw [Hsn.out, if_pos trivial]; exact val_int (by omega), hxi.drewN _, fun i hi hlt hn' => by
                    rcases Nat.lt_succ_iff_lt_or_eq.1 hlt with h | rfl
                    · exact HGI.out i hi h hn'
                    · rw [Hfk.out]; exact HT.out⟩
                  case measure => simp [intOf]; omega
          · have g1 := bne_t hnm
            have Hnm := Lib.hid hnm; clear hnm halt
            clear hct
            go_wp2
            go_quiet (fail)
            go_wp2
            go_roundw
            case rel => exact ⟨k + 1, val_int (by omega), by omega, by rw [Hsn.out, if_neg Hnm.out]; rfl, hxi.drewN _, fun i hi hlt hn' => by
              rcases Nat.lt_succ_iff_lt_or_eq.1 hlt with h | rfl
              · exact HGI.out i hi h hn'
              · rw [Hfk.out] at hn'; exact absurd hn' Hnm.out⟩
            case measure => simp [intOf]; omega
        · obtain rfl : n = k := by omega
          have hone : oneB s l = true := one_good (fun j hj hn' => HGI.out j hj (by omega) hn')
          have hsb : specB s l = ((decide (cnt s.num l ≤ 1) || s.many) && (!s.need || decide (0 < cnt s.num l))) := by unfold specB; rw [hone, Bool.true_and]
          have htk : l.take n = l := List.take_of_length_le (by omega)
          rw [htk]
          have Hsb := Lib.hid hsb
          clear hsb htk hone
          have hcs : (s.many = false ∧ decide ((1 : Int) < (cnt (s.num : Int) l : Int)) = true) ∨ ((s.many = true ∨ decide ((1 : Int) < (cnt (s.num : Int) l : Int)) = false) ∧ s.need = true ∧ cnt (s.num : Int) l = 0) ∨ ((s.many = true ∨ decide ((1 : Int) < (cnt (s.num : Int) l : Int)) = false) ∧ (s.need = false ∨ 0 < cnt (s.num : Int) l)) := by
            rcases s.many with _ | _ <;> rcases s.need with _ | _ <;> by_cases c1 : (1 : Int) < (cnt (s.num : Int) l : Int) <;> by_cases c2 : cnt (s.num : Int) l = 0 <;> simp [c1, c2] <;> omega
          generalize hct : cnt (s.num : Int) l = ct at *
          clear hct
          obtain ⟨sn, sw, ss, need, many⟩ := s
          dsimp only at hcs s0 s1 s3 s4 Hsb
          rcases hcs with ⟨rfl, h1⟩ | ⟨h1, rfl, rfl⟩ | ⟨h1, h2⟩
          · have hspec : specB ⟨sn, sw, ss, need, false⟩ l = false := by
              rw [Hsb.out]
              have : ¬ ct ≤ 1 := by have := of_decide_eq_true h1; omega
              simp [this]
            have HF := Lib.hid (HB.out hspec); clear hspec
            clear hsw
            go_wp2
            go_ret
            exact ⟨by rw [HCN.out, HF.out]; rfl, hx2.trans (hxa.trans hxi)⟩
          · have hspec : specB ⟨sn, sw, ss, true, many⟩ l = false := by
              rw [Hsb.out]; simp
            have HF := Lib.hid (HB.out hspec); clear hspec
            clear hsw
            rcases h1 with rfl | h1
            all_goals
              go_wp2
              go_ret
              exact ⟨by rw [HCN.out, HF.out]; rfl, hx2.trans (hxa.trans hxi)⟩
          · have hspec : specB ⟨sn, sw, ss, need, many⟩ l = true := by
              rw [Hsb.out]
              rcases h1 with rfl | h1 <;> rcases h2 with rfl | h2
              · simp
              · simp [h2]
              · have := of_decide_eq_false h1; simp; omega
              · have := of_decide_eq_false h1; simp [h2]; omega
            have HT := Lib.hid hspec; clear hspec
            clear hsw
            have h1' : (many = true ∧ decide ((1 : Int) < (ct : Int)) = false) ∨ (many = true ∧ decide ((1 : Int) < (ct : Int)) = true) ∨ (many = false ∧ decide ((1 : Int) < (ct : Int)) = false) := by
              rcases h1 with h | h
              · cases hd : decide ((1 : Int) < (ct : Int)) <;> simp [h]
              · cases many <;> simp [h]
            have h2' : (need = false ∧ ((ct : Int) == 0) = true) ∨ (((ct : Int) == 0) = false) := by
              by_cases e : ct = 0
              · rcases h2 with h | h
                · exact .inl ⟨h, by simp [e]⟩
                · omega
              · exact .inr (beq_f (by omega))
            clear h1 h2
            rcases h1' with ⟨rfl, h1⟩ | ⟨rfl, h1⟩ | ⟨rfl, h1⟩
            all_goals
              rcases h2' with ⟨rfl, h2⟩ | h2
              all_goals
                go_wp2
                refine ⟨⟨q + 1, val_int (by omega), by omega, hxa.trans hxi, fun q' hq' hlt => ?_⟩, by simp [intOf]; omega⟩
                rcases Nat.lt_succ_iff_lt_or_eq.1 hlt with h | rfl
                · exact HG.out q' hq' h
                · rw [Hsq.out]; exact HT.out
    · obtain rfl : N = q := by omega
      go_wp2
      go_ret
      have hok : okB S l = true := ok_specs (fun q hq => HG.out q hq (by rw [← HN.out]; exact hq))
      exact ⟨by rw [HCN.out, hok]; rfl, hx2.trans hx⟩
end Go.Proofs.Ytcoaofaofmbfbaa

