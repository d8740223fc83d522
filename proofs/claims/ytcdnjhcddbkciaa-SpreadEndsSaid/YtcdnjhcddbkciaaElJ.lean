/- The walks of the reference of layer 15: Put at votes, entries and cuts. -/
import Derived.Test.YtcdnjhcddbkciaaElA
import Derived.Test.YtcdnjhcddbkciaaRef01
import Derived.Test.YtcdnjhcddbkciaaApp
namespace Go.Proofs.Ytcdnjhcddbkciaa
open Go.RowKit

/-- is a vote's record one -/
def voteB (t who : Int) : Bool := inB t 0 1048576 && inB who 0 5

set_option maxRecDepth 100000 in
set_option maxHeartbeats 1600000 in
theorem ref15_Put_no (t who : Int) (w : World) (h : voteB t who = false) :
    Calls Try.prog 67 #[.agg #[.int .i64 2, .int .i64 t, .int .i64 who, .slice none 0 0]] w fun e w' => ∃ v, e = .returned (.tuple #[v, .int .i64 1]) ∧ Ext w w' := by
  rcases h1 : inB t 0 1048576 with _ | _
  · have C1 := Lib.hid (fun w => ref15_in' h1 w)
    clear h h1
    go_enter Try.func67, Try.ntmps67
    go_wp2_with fail
    refine (C1.out _).mono ?_
    rintro e w1 ⟨rfl, rfl⟩
    go_wp2
    go_ret2
    exact ⟨_, rfl, (Ext.refl w).alloc _⟩
  · have h2 : inB who 0 5 = false := by simpa [voteB, h1] using h
    have C1 := Lib.hid (fun w => ref15_in' h1 w)
    have C2 := Lib.hid (fun w => ref15_in' h2 w)
    clear h h1 h2
    go_enter Try.func67, Try.ntmps67
    go_wp2_with fail
    refine (C1.out _).mono ?_
    rintro e w1 ⟨rfl, rfl⟩
    go_wp2_with fail
    refine (C2.out _).mono ?_
    rintro e w1 ⟨rfl, rfl⟩
    go_wp2
    go_ret2
    exact ⟨_, rfl, (Ext.refl w).alloc _⟩

set_option maxRecDepth 100000 in
set_option maxHeartbeats 3200000 in
theorem ref15_Put_ok (t who : Nat) (w : World) (ht : t ≤ 1048576) (hw : who ≤ 5) :
    Calls Try.prog 67 #[.agg #[.int .i64 2, .int .i64 t, .int .i64 who, .slice none 0 0]] w fun e w' => ∃ v, e = .returned (.tuple #[v, .int .i64 0]) ∧ Ext w w' := by
  have h1 : inB t 0 1048576 = true := by rw [inB_t]; omega
  have h2 : inB who 0 5 = true := by rw [inB_t]; omega
  have C1 := Lib.hid (fun w => ref15_in' h1 w)
  have C2 := Lib.hid (fun w => ref15_in' h2 w)
  clear h1 h2
  have u1 : U64 t := by unfold U64; omega
  have P1 := Lib.hid (fun w => ref01_Put t u1 w)
  have l1 : (vput t).length ≤ 10 := by rw [vput_len]; exact u1.size
  have e1 : IntKind.u64.wrap (t : Int) = t := u1.wrap
  have u2 : U64 who := by unfold U64; omega
  have P2 := Lib.hid (fun w => ref01_Put who u2 w)
  have l2 : (vput who).length ≤ 10 := by rw [vput_len]; exact u2.size
  have e2 : IntKind.u64.wrap (who : Int) = who := u2.wrap
  generalize vput who = V2 at *
  generalize vput t = V1 at *
  clear u1 u2
  have hlen : 1 + V1.length + V2.length ≤ 100 := by omega
  go_enter Try.func67, Try.ntmps67
  go_wp2_with fail
  refine (C1.out _).mono ?_
  rintro e w1 ⟨rfl, rfl⟩
  go_wp2_with fail
  refine (C2.out _).mono ?_
  rintro e w1 ⟨rfl, rfl⟩
  go_wp2_with fail
  go_region_held3 (fun w' => w'.cell? ⟨w.heap.size, 0, none⟩ = some (.int .i64 2) ∧ w'.cell? ⟨w.heap.size, 1, none⟩ = some (.int .i64 t) ∧ w'.cell? ⟨w.heap.size, 2, none⟩ = some (.int .i64 who) ∧ w'.cell? ⟨w.heap.size, 3, none⟩ = some (.slice none 0 0))
    (first | go_keep | (exact ⟨x2.cell (p := ⟨w.heap.size, 0, none⟩) (by simp), x2.cell (p := ⟨w.heap.size, 1, none⟩) (by simp), x2.cell (p := ⟨w.heap.size, 2, none⟩) (by simp), x2.cell (p := ⟨w.heap.size, 3, none⟩) (by simp)⟩) | (exact ⟨(Below.cell y3 (p := ⟨w.heap.size, 0, none⟩) (by simp)).trans (x2.cell (by simp)), (Below.cell y3 (p := ⟨w.heap.size, 1, none⟩) (by simp)).trans (x2.cell (by simp)), (Below.cell y3 (p := ⟨w.heap.size, 2, none⟩) (by simp)).trans (x2.cell (by simp)), (Below.cell y3 (p := ⟨w.heap.size, 3, none⟩) (by simp)).trans (x2.cell (by simp))⟩))
    (first
      | (go_at_call 74; refine (P1.out _).mono ?_; rintro e w2 ⟨v2, rfl, hown2, x2⟩; obtain ⟨A2, k2, rfl, _⟩ := own_form hown2; have b2 := Bs.of_own hown2; have hz3 : w.heap.size + 2 ≤ w2.heap.size := (by have := x2.size; simp at this; omega); have hown1 := own_ext (World.ownsRow.drew (blk_own (B := w.heap.size + 1) (w.alloc (.cells #[.int .i64 2, .int .i64 t, .int .i64 who, .slice none 0 0] 70)) #[.int .u8 2] 5 1 1 rfl (by omega) (by simp) (w.heap.size + 1) (by simp))) x2)
      | (go_at_call 74; refine (P1.out _).mono ?_; rintro e w2 ⟨v2, rfl, hown2, x2⟩; obtain ⟨A2, k2, rfl, _⟩ := own_form hown2; have b2 := Bs.of_own hown2; have hz3 : w.heap.size + 1 ≤ w2.heap.size := (by have := x2.size; simp at this; omega))
      | (refine step_app bytesT (by omega) _ rfl rfl rfl hown1 rfl b2 (bvs_one _) (by unfold maxLen; omega) (by omega) (by omega) ?_; intro v3 w3 hown3 hg3 hat3; have y3 : Below (w.heap.size + 1) w2 w3 := Below.app (Below.refl _ _) hg3 (by omega) hown1 (Nat.le_refl _); have z3 : Ext w w3 := Below.app ((((Ext.refl w).alloc _).alloc _).drew.trans x2) hg3 (by omega) hown1 (by omega))
      | (refine step_app bytesT (by omega) _ rfl rfl rfl (blk_own _ #[.int .u8 2] 5 1 1 rfl (by omega) (Nat.le_refl _) _ rfl) rfl (b2.alloc _) (bvs_one _) (by unfold maxLen; omega) (by omega) (by simp) ?_; intro v3 w3 hown3 hg3 hat3; have y3 : Below (w.heap.size + 1) w2 w3 := Below.app ((Below.refl _ _).alloc hz3 _) hg3 (by simp; omega) (blk_own _ #[.int .u8 2] 5 1 1 rfl (by omega) (Nat.le_refl _) _ rfl) hz3; have z3 : Ext w w3 := Below.app (((((Ext.refl w).alloc _).drew.trans x2)).alloc _) hg3 (by simp; omega) (blk_own _ #[.int .u8 2] 5 1 1 rfl (by omega) (Nat.le_refl _) _ rfl) (by omega)))
  all_goals
    obtain ⟨A3, k3, rfl, _⟩ := own_form hown3
    have c3 : w3.cell? ⟨w.heap.size, 3, none⟩ = some (.slice none 0 0) := (Below.cell y3 (p := ⟨w.heap.size, 3, none⟩) (by simp)).trans (x2.cell (by simp))
    have hz5 := y3.size
    have hz6 : w.heap.size + 1 ≤ w3.heap.size := by omega
    have hown3b : w3.ownsRow (w.heap.size + 1) 5 1 (.slice A3 (1 + V1.length) k3) (1 + V1.length) _ := own_base hown3 (by first | exact Nat.le_refl _ | assumption | omega)
    clear hown3 hz5 y3 x2 hz3
    go_wp2_with fail
    refine (P2.out _).mono ?_
    rintro e w4 ⟨v4, rfl, hown4, x4⟩
    obtain ⟨A4, k4, rfl, _⟩ := own_form hown4
    have c4 := x4.cell c3
    have b4 := Bs.of_own hown4
    have hown3' := own_ext hown3b x4
    have z4 := z3.trans x4
    have hz4 := x4.size
    clear hown4 hown3b c3
    go_wp2_with (first
      | (at_builtin; refine wpList_app bytesT (by omega) _ rfl rfl rfl hown3' rfl b4 (bvs_one _) (by unfold maxLen; omega) (by omega) (by omega) ?_; intro v5 w5 hown5 hg5 hat5; have z5 := Below.app z4 hg5 (by omega) hown3' (by omega); have y5 : Below (w.heap.size + 1) w4 w5 := Below.app (Below.refl _ _) hg5 (by omega) hown3' (Nat.le_refl _); have c5 := (Below.cell y5 (p := ⟨w.heap.size, 3, none⟩) (by simp)).trans c4; have hz8 := y5.size; clear hg5 hat5)
      | (at_builtin; refine wpList_app bytesT (by omega) _ rfl rfl rfl hown5 rfl (Bs.nil_ w5 none) (bvs_one _) (by unfold maxLen; omega) (by omega) (by omega) ?_; intro v6 w6 hown6 hg6 hat6))
    go_ret2
    exact ⟨_, rfl, Below.app z5 hg6 (by omega) hown5 (by omega)⟩

set_option maxRecDepth 100000 in
set_option maxHeartbeats 3200000 in
theorem ref15_Put_entry (t who : Nat) (A : Option Addr) (len cap : Nat) (x : List UInt8) (w : World) (ht1 : 1 ≤ t) (ht : t ≤ 64) (hw : who ≤ 1048576) (hX : Bs w A len x) (hl : len ≤ 200) :
    Calls Try.prog 67 #[.agg #[.int .i64 3, .int .i64 t, .int .i64 who, .slice A len cap]] w fun e w' => ∃ v, e = .returned (.tuple #[v, .int .i64 0]) ∧ Ext w w' := by
  have h1 : inB t 1 64 = true := by rw [inB_t]; omega
  have h2 : inB who 0 1048576 = true := by rw [inB_t]; omega
  have C1 := Lib.hid (fun w => ref15_in' h1 w)
  have C2 := Lib.hid (fun w => ref15_in' h2 w)
  clear h1 h2
  have u1 : U64 t := by unfold U64; omega
  have P1 := Lib.hid (fun w => ref01_Put t u1 w)
  have l1 : (vput t).length ≤ 10 := by rw [vput_len]; exact u1.size
  have e1 : IntKind.u64.wrap (t : Int) = t := u1.wrap
  have u2 : U64 who := by unfold U64; omega
  have P2 := Lib.hid (fun w => ref01_Put who u2 w)
  have l2 : (vput who).length ≤ 10 := by rw [vput_len]; exact u2.size
  have e2 : IntKind.u64.wrap (who : Int) = who := u2.wrap
  generalize vput who = V2 at *
  generalize vput t = V1 at *
  clear u1 u2
  have hlen : 1 + V1.length + V2.length ≤ 100 := by omega
  go_enter Try.func67, Try.ntmps67
  go_wp2_with fail
  refine (C1.out _).mono ?_
  rintro e w1 ⟨rfl, rfl⟩
  go_wp2_with fail
  refine (C2.out _).mono ?_
  rintro e w1 ⟨rfl, rfl⟩
  go_wp2_with fail
  go_region_held3 (fun w' => w'.cell? ⟨w.heap.size, 0, none⟩ = some (.int .i64 3) ∧ w'.cell? ⟨w.heap.size, 1, none⟩ = some (.int .i64 t) ∧ w'.cell? ⟨w.heap.size, 2, none⟩ = some (.int .i64 who) ∧ w'.cell? ⟨w.heap.size, 3, none⟩ = some (.slice A len cap))
    (first | go_keep | (exact ⟨x2.cell (p := ⟨w.heap.size, 0, none⟩) (by simp), x2.cell (p := ⟨w.heap.size, 1, none⟩) (by simp), x2.cell (p := ⟨w.heap.size, 2, none⟩) (by simp), x2.cell (p := ⟨w.heap.size, 3, none⟩) (by simp)⟩) | (exact ⟨(Below.cell y3 (p := ⟨w.heap.size, 0, none⟩) (by simp)).trans (x2.cell (by simp)), (Below.cell y3 (p := ⟨w.heap.size, 1, none⟩) (by simp)).trans (x2.cell (by simp)), (Below.cell y3 (p := ⟨w.heap.size, 2, none⟩) (by simp)).trans (x2.cell (by simp)), (Below.cell y3 (p := ⟨w.heap.size, 3, none⟩) (by simp)).trans (x2.cell (by simp))⟩))
    (first
      | (go_at_call 74; refine (P1.out _).mono ?_; rintro e w2 ⟨v2, rfl, hown2, x2⟩; obtain ⟨A2, k2, rfl, _⟩ := own_form hown2; have b2 := Bs.of_own hown2; have hz3 : w.heap.size + 2 ≤ w2.heap.size := (by have := x2.size; simp at this; omega); have hown1 := own_ext (World.ownsRow.drew (blk_own (B := w.heap.size + 1) (w.alloc (.cells #[.int .i64 3, .int .i64 t, .int .i64 who, .slice A len cap] 70)) #[.int .u8 3] 5 1 1 rfl (by omega) (by simp) (w.heap.size + 1) (by simp))) x2)
      | (go_at_call 74; refine (P1.out _).mono ?_; rintro e w2 ⟨v2, rfl, hown2, x2⟩; obtain ⟨A2, k2, rfl, _⟩ := own_form hown2; have b2 := Bs.of_own hown2; have hz3 : w.heap.size + 1 ≤ w2.heap.size := (by have := x2.size; simp at this; omega))
      | (refine step_app bytesT (by omega) _ rfl rfl rfl hown1 rfl b2 (bvs_one _) (by unfold maxLen; omega) (by omega) (by omega) ?_; intro v3 w3 hown3 hg3 hat3; have y3 : Below (w.heap.size + 1) w2 w3 := Below.app (Below.refl _ _) hg3 (by omega) hown1 (Nat.le_refl _); have z3 : Ext w w3 := Below.app ((((Ext.refl w).alloc _).alloc _).drew.trans x2) hg3 (by omega) hown1 (by omega))
      | (refine step_app bytesT (by omega) _ rfl rfl rfl (blk_own _ #[.int .u8 3] 5 1 1 rfl (by omega) (Nat.le_refl _) _ rfl) rfl (b2.alloc _) (bvs_one _) (by unfold maxLen; omega) (by omega) (by simp) ?_; intro v3 w3 hown3 hg3 hat3; have y3 : Below (w.heap.size + 1) w2 w3 := Below.app ((Below.refl _ _).alloc hz3 _) hg3 (by simp; omega) (blk_own _ #[.int .u8 3] 5 1 1 rfl (by omega) (Nat.le_refl _) _ rfl) hz3; have z3 : Ext w w3 := Below.app (((((Ext.refl w).alloc _).drew.trans x2)).alloc _) hg3 (by simp; omega) (blk_own _ #[.int .u8 3] 5 1 1 rfl (by omega) (Nat.le_refl _) _ rfl) (by omega)))
  all_goals
    obtain ⟨A3, k3, rfl, _⟩ := own_form hown3
    have c3 : w3.cell? ⟨w.heap.size, 3, none⟩ = some (.slice A len cap) := (Below.cell y3 (p := ⟨w.heap.size, 3, none⟩) (by simp)).trans (x2.cell (by simp))
    have hz5 := y3.size
    have hz6 : w.heap.size + 1 ≤ w3.heap.size := by omega
    have hown3b : w3.ownsRow (w.heap.size + 1) 5 1 (.slice A3 (1 + V1.length) k3) (1 + V1.length) _ := own_base hown3 (by first | exact Nat.le_refl _ | assumption | omega)
    clear hown3 hz5 y3 x2 hz3
    go_wp2_with fail
    refine (P2.out _).mono ?_
    rintro e w4 ⟨v4, rfl, hown4, x4⟩
    obtain ⟨A4, k4, rfl, _⟩ := own_form hown4
    have c4 := x4.cell c3
    have b4 := Bs.of_own hown4
    have hown3' := own_ext hown3b x4
    have z4 := z3.trans x4
    have hz4 := x4.size
    clear hown4 hown3b c3
    go_wp2_with (first
      | (at_builtin; refine wpList_app bytesT (by omega) _ rfl rfl rfl hown3' rfl b4 (bvs_one _) (by unfold maxLen; omega) (by omega) (by omega) ?_; intro v5 w5 hown5 hg5 hat5; have z5 := Below.app z4 hg5 (by omega) hown3' (by omega); have y5 : Below (w.heap.size + 1) w4 w5 := Below.app (Below.refl _ _) hg5 (by omega) hown3' (Nat.le_refl _); have c5 := (Below.cell y5 (p := ⟨w.heap.size, 3, none⟩) (by simp)).trans c4; have hz8 := y5.size; clear hg5 hat5)
      | (at_builtin; refine wpList_app bytesT (by omega) _ rfl rfl rfl hown5 rfl (hX.ext z5) (bvs_one _) (by unfold maxLen; omega) (by omega) (by omega) ?_; intro v6 w6 hown6 hg6 hat6))
    go_ret2
    exact ⟨_, rfl, Below.app z5 hg6 (by omega) hown5 (by omega)⟩

set_option maxRecDepth 100000 in
set_option maxHeartbeats 3200000 in
theorem ref15_Put_cut (t : Nat) (w : World) (ht1 : 1 ≤ t) (ht : t ≤ 64) :
    Calls Try.prog 67 #[.agg #[.int .i64 4, .int .i64 t, .int .i64 0, .slice none 0 0]] w fun e w' => ∃ v, e = .returned (.tuple #[v, .int .i64 0]) ∧ Ext w w' := by
  have h1 : inB t 1 64 = true := by rw [inB_t]; omega
  have C1 := Lib.hid (fun w => ref15_in' h1 w)
  clear h1
  have u1 : U64 t := by unfold U64; omega
  have P1 := Lib.hid (fun w => ref01_Put t u1 w)
  have l1 : (vput t).length ≤ 10 := by rw [vput_len]; exact u1.size
  have e1 : IntKind.u64.wrap (t : Int) = t := u1.wrap
  generalize vput t = V1 at *
  clear u1
  have hlen : 1 + V1.length ≤ 100 := by omega
  go_enter Try.func67, Try.ntmps67
  go_wp2_with fail
  refine (C1.out _).mono ?_
  rintro e w1 ⟨rfl, rfl⟩
  go_wp2_with fail
  go_region_held3 (fun w' => w'.cell? ⟨w.heap.size, 0, none⟩ = some (.int .i64 4) ∧ w'.cell? ⟨w.heap.size, 1, none⟩ = some (.int .i64 t) ∧ w'.cell? ⟨w.heap.size, 2, none⟩ = some (.int .i64 0) ∧ w'.cell? ⟨w.heap.size, 3, none⟩ = some (.slice none 0 0))
    (first | go_keep | (exact ⟨x2.cell (p := ⟨w.heap.size, 0, none⟩) (by simp), x2.cell (p := ⟨w.heap.size, 1, none⟩) (by simp), x2.cell (p := ⟨w.heap.size, 2, none⟩) (by simp), x2.cell (p := ⟨w.heap.size, 3, none⟩) (by simp)⟩) | (exact ⟨(Below.cell y3 (p := ⟨w.heap.size, 0, none⟩) (by simp)).trans (x2.cell (by simp)), (Below.cell y3 (p := ⟨w.heap.size, 1, none⟩) (by simp)).trans (x2.cell (by simp)), (Below.cell y3 (p := ⟨w.heap.size, 2, none⟩) (by simp)).trans (x2.cell (by simp)), (Below.cell y3 (p := ⟨w.heap.size, 3, none⟩) (by simp)).trans (x2.cell (by simp))⟩))
    (first
      | (go_at_call 74; refine (P1.out _).mono ?_; rintro e w2 ⟨v2, rfl, hown2, x2⟩; obtain ⟨A2, k2, rfl, _⟩ := own_form hown2; have b2 := Bs.of_own hown2; have hz3 : w.heap.size + 2 ≤ w2.heap.size := (by have := x2.size; simp at this; omega); have hown1 := own_ext (World.ownsRow.drew (blk_own (B := w.heap.size + 1) (w.alloc (.cells #[.int .i64 4, .int .i64 t, .int .i64 0, .slice none 0 0] 70)) #[.int .u8 4] 5 1 1 rfl (by omega) (by simp) (w.heap.size + 1) (by simp))) x2)
      | (go_at_call 74; refine (P1.out _).mono ?_; rintro e w2 ⟨v2, rfl, hown2, x2⟩; obtain ⟨A2, k2, rfl, _⟩ := own_form hown2; have b2 := Bs.of_own hown2; have hz3 : w.heap.size + 1 ≤ w2.heap.size := (by have := x2.size; simp at this; omega))
      | (refine step_app bytesT (by omega) _ rfl rfl rfl hown1 rfl b2 (bvs_one _) (by unfold maxLen; omega) (by omega) (by omega) ?_; intro v3 w3 hown3 hg3 hat3; have y3 : Below (w.heap.size + 1) w2 w3 := Below.app (Below.refl _ _) hg3 (by omega) hown1 (Nat.le_refl _); have z3 : Ext w w3 := Below.app ((((Ext.refl w).alloc _).alloc _).drew.trans x2) hg3 (by omega) hown1 (by omega))
      | (refine step_app bytesT (by omega) _ rfl rfl rfl (blk_own _ #[.int .u8 4] 5 1 1 rfl (by omega) (Nat.le_refl _) _ rfl) rfl (b2.alloc _) (bvs_one _) (by unfold maxLen; omega) (by omega) (by simp) ?_; intro v3 w3 hown3 hg3 hat3; have y3 : Below (w.heap.size + 1) w2 w3 := Below.app ((Below.refl _ _).alloc hz3 _) hg3 (by simp; omega) (blk_own _ #[.int .u8 4] 5 1 1 rfl (by omega) (Nat.le_refl _) _ rfl) hz3; have z3 : Ext w w3 := Below.app (((((Ext.refl w).alloc _).drew.trans x2)).alloc _) hg3 (by simp; omega) (blk_own _ #[.int .u8 4] 5 1 1 rfl (by omega) (Nat.le_refl _) _ rfl) (by omega)))
  all_goals
    obtain ⟨A3, k3, rfl, _⟩ := own_form hown3
    have c3 : w3.cell? ⟨w.heap.size, 3, none⟩ = some (.slice none 0 0) := (Below.cell y3 (p := ⟨w.heap.size, 3, none⟩) (by simp)).trans (x2.cell (by simp))
    have hz5 := y3.size
    have hz6 : w.heap.size + 1 ≤ w3.heap.size := by omega
    have hown3b : w3.ownsRow (w.heap.size + 1) 5 1 (.slice A3 (1 + V1.length) k3) (1 + V1.length) _ := own_base hown3 (by first | exact Nat.le_refl _ | assumption | omega)
    clear hown3 hz5 y3 x2 hz3
    go_wp2_with (at_builtin; refine wpList_app bytesT (by omega) _ rfl rfl rfl hown3b rfl (Bs.nil_ w3 none) (bvs_one _) (by unfold maxLen; omega) (by omega) (by omega) ?_; intro v6 w6 hown6 hg6 hat6)
    go_ret2
    first | exact ⟨_, rfl, Below.app z3 hg6 (by omega) hown3b (by omega)⟩ | exact ⟨⟨_, rfl⟩, Below.app z3 hg6 (by omega) hown3b (by omega)⟩
end Go.Proofs.Ytcdnjhcddbkciaa
