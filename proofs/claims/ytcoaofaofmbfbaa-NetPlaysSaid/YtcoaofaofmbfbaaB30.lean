/- Words and walks that the last text of this claim stands on: NtB. No condition. -/
import Derived.Test.YtcoaofaofmbfbaaB29
import Derived.Laws.LoneSync
/- The walks of sync/atomic's Int64, and of net's New, Len, there, Counts. -/
namespace Go.Proofs.Ytcoaofaofmbfbaa
open Go.RowKit

set_option maxRecDepth 100000 in
theorem atom_Add (g i : Nat) (a k : Int) (w : World) (hc : w.cell? ⟨g, i, none⟩ = some (.int .i64 a)) (hz : w.frozen? ⟨g, i, none⟩ = false) (h0 : -1000000000000 ≤ a + k) (h1 : a + k ≤ 1000000000000) :
    Calls Try.prog 66 #[.pointer (some ⟨g, i, none⟩), .int .i64 k] w fun e w' => e = .returned (.int .i64 (a + k)) ∧ w' = w.setCell ⟨g, i, none⟩ (.int .i64 (a + k)) := by
  have hw : IntKind.i64.wrap (a + k) = a + k := IntWalk.i64_in _ ⟨by omega, by omega⟩
  have hs : (Op.intArith .add .i64 a k).run Try.prog w = .ok (.int .i64 (a + k)) w := by simp [go_sem, Op.intArith, hw]
  have hl := run_call_add (P := Try.prog) Try.func89 (by kernel_rfl) (by kernel_rfl) (by kernel_rfl) .i64 (by kernel_rfl) hc hz hs
  clear hs
  go_enter Try.func66, Try.ntmps66
  go_wp2_with fail
  go_ret
  exact ⟨rfl, rfl⟩
set_option maxRecDepth 100000 in
theorem atom_Load (g i : Nat) (a : Int) (w : World) (hc : w.cell? ⟨g, i, none⟩ = some (.int .i64 a)) :
    Calls Try.prog 69 #[.pointer (some ⟨g, i, none⟩)] w fun e w' => e = .returned (.int .i64 a) ∧ w' = w := by
  have hl := run_call_load (P := Try.prog) Try.func91 (by kernel_rfl) (by kernel_rfl) (by kernel_rfl) .i64 (by kernel_rfl) hc
  go_enter Try.func69, Try.ntmps69
  go_wp2_with fail
  go_ret
  exact ⟨rfl, rfl⟩
set_option maxRecDepth 100000 in
theorem atom_Store (g i : Nat) (a : Int) (u : Value) (w : World) (hc : w.cell? ⟨g, i, none⟩ = some u) (hz : w.frozen? ⟨g, i, none⟩ = false) :
    Calls Try.prog 70 #[.pointer (some ⟨g, i, none⟩), .int .i64 a] w fun e w' => e = .returned (.tuple #[]) ∧ w' = w.setCell ⟨g, i, none⟩ (.int .i64 a) := by
  have hl := run_call_store (P := Try.prog) Try.func92 (by kernel_rfl) (by kernel_rfl) (by kernel_rfl) (by kernel_rfl) (k := .i64) (y := a) hc hz
  go_enter Try.func70, Try.ntmps70
  go_wp2_with fail
  go_end0
  exact ⟨rfl, rfl⟩

/-- a net in memory -/
abbrev Net (w : World) (F : Nat → Bool) (g : Nat) (x : NetV) : Prop := IsNet w F g 99 29 x
def netZ : NetV := ⟨none, 0, 0, [], 0, 0, 0⟩
theorem Net.zero (w : World) (g : Nat) (h : Blk w g 99 [.slice none 0 0, .int .i64 0, .int .i64 0, .int .i64 0]) : Net w (fun k => k == g) g netZ :=
  ⟨h, World.ownsRow_nil _ _ _ _, by simp [netZ], .nil, by simp [netZ], by simp, by simp [netZ, Value.ownBlock], by simp [netZ], by intro k hk; have := h.lt; simp at hk; omega, by simp [netZ], by simp [netZ], by simp [netZ]⟩
set_option maxRecDepth 100000 in
theorem net_New (w : World) : Calls Try.prog 25 #[] w fun e w' => e = .returned (.pointer (some ⟨w.heap.size, 0, none⟩)) ∧ Net w' (fun k => k == w.heap.size) w.heap.size netZ ∧ Ext w w' := by
  go_enter Try.func25, Try.ntmps25
  go_wp2_with fail
  go_ret
  exact ⟨rfl, Net.zero _ _ (Blk.new w _ _), (Ext.refl w).alloc _⟩
theorem Net.cells {w : World} {F : Nat → Bool} {g : Nat} {x : NetV} (h : Net w F g x) : w.cell? ⟨g, 0, none⟩ = some (.slice x.A x.n x.c) ∧ w.cell? ⟨g, 1, none⟩ = some (.int .i64 x.sent) ∧ w.cell? ⟨g, 2, none⟩ = some (.int .i64 x.taken) ∧ w.cell? ⟨g, 3, none⟩ = some (.int .i64 x.lost) :=
  ⟨h.blk.cell 0, h.blk.cell 1, h.blk.cell 2, h.blk.cell 3⟩
set_option maxRecDepth 100000 in
theorem net_Len (F : Nat → Bool) (g : Nat) (x : NetV) (w : World) (h : Net w F g x) :
    Calls Try.prog 28 #[.pointer (some ⟨g, 0, none⟩)] w fun e w' => e = .returned (.int .i64 x.n) ∧ w' = w := by
  obtain ⟨d0, _⟩ := h.cells
  clear h
  go_enter Try.func28, Try.ntmps28
  go_wp2_with fail
  go_ret
  exact ⟨rfl, rfl⟩
def thereB (n : Nat) (i : Int) : Bool := decide (0 ≤ i) && decide (i < n)
set_option maxRecDepth 100000 in
theorem net_there (F : Nat → Bool) (g : Nat) (x : NetV) (i : Int) (w : World) (h : Net w F g x) :
    Calls Try.prog 67 #[.pointer (some ⟨g, 0, none⟩), .int .i64 i] w fun e w' => e = .returned (.bool (thereB x.n i)) ∧ w' = w := by
  obtain ⟨d0, _⟩ := h.cells
  clear h
  by_cases h0 : 0 ≤ i
  · by_cases h1 : i < x.n
    · rw [show thereB x.n i = true by unfold thereB; rw [dec_t h0, dec_t h1]; rfl]
      go_enter Try.func67, Try.ntmps67
      go_wp2_with fail
      go_ret
      exact ⟨rfl, rfl⟩
    · rw [show thereB x.n i = false by unfold thereB; rw [dec_f h1, Bool.and_false]]
      go_enter Try.func67, Try.ntmps67
      go_wp2_with fail
      go_ret
      exact ⟨rfl, rfl⟩
  · rw [show thereB x.n i = false by unfold thereB; rw [dec_f h0]; rfl]
    have h0' := dec_f h0
    go_enter Try.func67, Try.ntmps67
    go_wp2_with fail
    go_ret
    exact ⟨rfl, rfl⟩
set_option maxRecDepth 100000 in
set_option maxHeartbeats 400000 in
theorem net_Counts (F : Nat → Bool) (g : Nat) (x : NetV) (w : World) (h : Net w F g x) :
    Calls Try.prog 33 #[.pointer (some ⟨g, 0, none⟩)] w fun e w' => e = .returned (.tuple #[.int .i64 x.sent, .int .i64 x.taken, .int .i64 x.lost]) ∧ ∃ k, w' = w.drewN k := by
  obtain ⟨_, d1, d2, d3⟩ := h.cells
  have C1 := Lib.hid (fun k => atom_Load g 1 x.sent (w.drewN k) d1)
  have C2 := Lib.hid (fun k => atom_Load g 2 x.taken (w.drewN k) d2)
  have C3 := Lib.hid (fun k => atom_Load g 3 x.lost (w.drewN k) d3)
  clear h d1 d2 d3
  go_enter Try.func33, Try.ntmps33
  go_wp2_with fail
  go_quiet (first | (go_at_call_of 69 (Value.pointer (some (⟨g, 1, none⟩ : Addr))); exact Calls.quiet_of_same (C1.out _)) | (go_at_call_of 69 (Value.pointer (some (⟨g, 2, none⟩ : Addr))); exact Calls.quiet_of_same (C2.out _)) | (go_at_call_of 69 (Value.pointer (some (⟨g, 3, none⟩ : Addr))); exact Calls.quiet_of_same (C3.out _)))
  go_wp2_with fail
  refine bodyPost_ret (v := .tuple #[.int .i64 x.sent, .int .i64 x.taken, .int .i64 x.lost]) (by simp [results, Try.results33, go_sem]) rfl ⟨rfl, nq, rfl⟩
end Go.Proofs.Ytcoaofaofmbfbaa
