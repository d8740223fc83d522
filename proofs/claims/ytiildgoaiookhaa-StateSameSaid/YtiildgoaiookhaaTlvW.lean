/- The walks of layer 3: single fields. -/
import Derived.Test.YtiildgoaiookhaaTagL
import Derived.Test.YtiildgoaiookhaaField
namespace Go.Proofs.Ytiildgoaiookhaa
open Go.RowKit

/-- may a field be, wherever it stands -/
def aloneB (f : FV) : Bool := if f.num < 1 then false else if 1000 < f.num then false else if f.wire = 0 then (f.len : Int) == 0 else if f.wire = 2 then (f.n : Int) == 0 else false
/-- may f stand right behind a -/
def risesB (a f : FV) : Bool := if f.num = a.num then (f.wire == 2 && a.wire == 2) else decide (a.num < f.num)

set_option maxRecDepth 100000 in
set_option maxHeartbeats 400000 in
theorem tlv_alone (f : FV) (w : World) : Calls Try.prog 118 #[f.val] w fun e w' => e = .returned (.bool (aloneB f)) ∧ Ext w w' := by
  obtain ⟨num, wire, n, A, len, cap, b⟩ := f
  unfold FV.val aloneB
  dsimp only
  by_cases h1 : num < 1
  · rw [if_pos h1]
    go_enter Try.func118, Try.ntmps118
    go_wp2
    go_ret
    exact ⟨rfl, (Ext.refl w).alloc _⟩
  · rw [if_neg h1]
    by_cases h2 : 1000 < num
    · rw [if_pos h2]
      go_enter Try.func118, Try.ntmps118
      go_wp2
      go_ret
      exact ⟨rfl, (Ext.refl w).alloc _⟩
    · rw [if_neg h2]
      by_cases h3 : wire = 0
      · rw [if_pos h3]
        subst h3
        go_enter Try.func118, Try.ntmps118
        go_wp2
        go_ret
        exact ⟨rfl, (Ext.refl w).alloc _⟩
      · rw [if_neg h3]
        by_cases h4 : wire = 2
        · rw [if_pos h4]
          subst h4
          go_enter Try.func118, Try.ntmps118
          go_wp2
          go_ret
          exact ⟨rfl, (Ext.refl w).alloc _⟩
        · rw [if_neg h4]
          have g3 := beq_f h3
          have g4 := beq_f h4
          clear h3 h4
          go_enter Try.func118, Try.ntmps118
          go_wp2
          go_ret
          exact ⟨rfl, (Ext.refl w).alloc _⟩

set_option maxRecDepth 100000 in
set_option maxHeartbeats 400000 in
theorem tlv_rises (a f : FV) (w : World) : Calls Try.prog 104 #[a.val, f.val] w fun e w' => e = .returned (.bool (risesB a f)) ∧ Ext w w' := by
  obtain ⟨num, wire, n, A, len, cap, b⟩ := f
  obtain ⟨num', wire', n', A', len', cap', b'⟩ := a
  unfold FV.val risesB
  dsimp only
  by_cases h1 : num = num'
  · rw [if_pos h1]
    subst h1
    rcases h2 : (wire == 2) with _ | _
    · go_enter Try.func104, Try.ntmps104
      go_wp2
      go_ret
      exact ⟨rfl, ((Ext.refl w).alloc _).alloc _⟩
    · go_enter Try.func104, Try.ntmps104
      go_wp2
      go_ret
      exact ⟨rfl, ((Ext.refl w).alloc _).alloc _⟩
  · rw [if_neg h1]
    have g1 := beq_f h1
    clear h1
    go_enter Try.func104, Try.ntmps104
    go_wp2
    go_ret
    exact ⟨rfl, ((Ext.refl w).alloc _).alloc _⟩

/-- the bytes of a field -/
def fput (num wire n : Nat) (b : List UInt8) : List UInt8 := vput (8 * num + wire) ++ (if wire = 0 then vput n else vput b.length ++ b)

set_option maxRecDepth 100000 in
set_option maxHeartbeats 400000 in
theorem tlv_put (num wire n : Nat) (A : Option Addr) (len cap : Nat) (b : List UInt8) (w : World) (hm : TagMay num wire) (hn : U64 n) (hb : Bs w A len b) (hl : len ≤ 100000) :
    Calls Try.prog 98 #[.agg #[.int .i64 num, .int .i64 wire, .int .u64 n, .slice A len cap]] w fun e w' => ∃ v, e = .returned v ∧ w'.ownsRow w.heap.size 5 1 v (fput num wire n b).length ((fput num wire n b).map bv) ∧ Ext w w' := by
  have hlen := hb.len
  have hU : (vput (8 * num + wire)).length ≤ 2 := by rw [tag_len hm]; split <;> omega
  have HP := Lib.hid (fun w => tag_Put_ok num wire hm w)
  obtain ⟨_, _, h3⟩ := hm
  unfold fput
  generalize vput (8 * num + wire) = U at *
  rcases h3 with rfl | rfl
  · rw [if_pos rfl]
    have HQ := Lib.hid (fun w => varint_Put n hn w)
    have hQ : (vput n).length ≤ 10 := by rw [vput_len]; exact hn.size
    generalize vput n = V at *
    clear hlen hb
    go_enter Try.func98, Try.ntmps98
    go_wp2_with fail
    refine (HP.out _).mono ?_
    rintro e w1 ⟨v1, rfl, hown1, x1⟩
    have c0 : w1.cell? ⟨w.heap.size, 0, none⟩ = some (.int .i64 num) := x1.cell (by simp)
    have c1 : w1.cell? ⟨w.heap.size, 1, none⟩ = some (.int .i64 0) := x1.cell (by simp)
    have c2 : w1.cell? ⟨w.heap.size, 2, none⟩ = some (.int .u64 n) := x1.cell (by simp)
    have c3 : w1.cell? ⟨w.heap.size, 3, none⟩ = some (.slice A len cap) := x1.cell (by simp)
    go_wp2_with fail
    refine (HQ.out _).mono ?_
    rintro e w2 ⟨v2, rfl, hown2, x2⟩
    obtain ⟨A2, k2, rfl, _⟩ := own_form hown2
    have b2 := Bs.of_own hown2
    have hown1' := own_ext hown1 x2
    have hz := x1.size
    have hz2 := x2.size
    clear c0 c1 c2 c3
    simp at hz
    go_wp2_with (at_builtin; refine wpList_app bytesT (by omega) _ rfl rfl rfl hown1' rfl b2 (bvs_one _) (by unfold maxLen; omega) (by omega) (by simp; omega) ?_; intro v3 w3 hown3 hg3 hat3)
    go_ret
    refine ⟨v3, rfl, ?_, ?_⟩
    · exact own_to hown3 (by simp) (by simp) (by simp)
    · exact Below.app (((Ext.refl w).alloc _).trans (x1.trans x2)) hg3 (by omega) hown1' (by simp)
  · rw [if_neg (by omega)]
    have hu : U64 len := by unfold U64; omega
    have HQ := Lib.hid (fun w => varint_Put len hu w)
    have hQ : (vput len).length ≤ 10 := by rw [vput_len]; exact hu.size
    rw [hlen]
    generalize vput len = V at *
    go_enter Try.func98, Try.ntmps98
    go_wp2_with fail
    refine (HP.out _).mono ?_
    rintro e w1 ⟨v1, rfl, hown1, x1⟩
    have c0 : w1.cell? ⟨w.heap.size, 0, none⟩ = some (.int .i64 num) := x1.cell (by simp)
    have c1 : w1.cell? ⟨w.heap.size, 1, none⟩ = some (.int .i64 2) := x1.cell (by simp)
    have c2 : w1.cell? ⟨w.heap.size, 2, none⟩ = some (.int .u64 n) := x1.cell (by simp)
    have c3 : w1.cell? ⟨w.heap.size, 3, none⟩ = some (.slice A len cap) := x1.cell (by simp)
    go_wp2_with fail
    refine (HQ.out _).mono ?_
    rintro e w2 ⟨v2, rfl, hown2, x2⟩
    obtain ⟨A2, k2, rfl, _⟩ := own_form hown2
    have b2 := Bs.of_own hown2
    have hown1' := own_ext hown1 x2
    have hz := x1.size
    have hz2 := x2.size
    have x02 : Ext w w2 := ((Ext.refl w).alloc _).trans (x1.trans x2)
    have c3' := x2.cell c3
    have hlt3 := World.block_lt_of_cell? _ _ c3
    clear c0 c1 c2
    simp at hz
    go_wp2_with (first | (at_builtin; refine wpList_app bytesT (by omega) _ rfl rfl rfl hown1' rfl b2 (bvs_one _) (by unfold maxLen; omega) (by omega) (by simp; omega) ?_; intro v3 w3 hown3 hg3 hat3; have x3 : Below (w.heap.size + 1) w2 w3 := Below.app (Below.refl _ _) hg3 (by omega) hown1' (by simp); have c3'' := (Below.cell x3 (p := ⟨w.heap.size, 3, none⟩) (by simp)).trans c3'; have x03 : Ext w w3 := Below.app x02 hg3 (by omega) hown1' (by simp); have hb3 := hb.ext x03; have hz3 := x3.size; clear hg3 hat3) | (at_builtin; refine wpList_app bytesT (by omega) _ rfl rfl rfl hown3 rfl hb3 (bvs_one _) (by unfold maxLen; omega) (by omega) (by simp; omega) ?_; intro v4 w4 hown4 hg4 hat4))
    go_ret
    exact ⟨v4, rfl, own_to hown4 (by simp) (by simp [hlen]; omega) (by simp), Below.app x03 hg4 (by omega) hown3 (by simp)⟩
end Go.Proofs.Ytiildgoaiookhaa
