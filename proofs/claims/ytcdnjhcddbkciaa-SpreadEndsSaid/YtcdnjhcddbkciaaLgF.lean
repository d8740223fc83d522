/- The head of layer 17's laws. -/
import Derived.Test.YtcdnjhcddbkciaaLgS
import Derived.Test.YtcdnjhcddbkciaaLogB
import Derived.Deep.QuietTactic
namespace Go.Proofs.Ytcdnjhcddbkciaa
open Go.RowKit

theorem own_form17 {w : World} {base : Nat} {e : TypeId} {size n : Nat} {v : Value} {xs : List Value} (h : w.ownsRow base e size v n xs) : ∃ A c, v = .slice A n c ∧ n ≤ c ∧ c ≤ maxLen := by
  rcases h.2 with ⟨rfl, h0⟩ | ⟨g, cap, cur, rfl, hb, hg, hc, hm, _⟩
  · exact ⟨none, 0, by rw [h0], by omega, by unfold maxLen; omega⟩
  · exact ⟨_, _, rfl, hc, hm⟩
theorem quiet_same {P : Program} {f : FuncId} {args : Array Value} {w : World} {n : Nat} {v : Value}
    (h : Calls P f args (w.drewN n) fun e w' => e = .returned v ∧ w.drewN n = w') : Calls P f args (w.drewN n) fun e w' => e = .returned v ∧ ∃ m, w' = w.drewN m :=
  h.mono fun _ _ ⟨he, hm⟩ => ⟨he, n, hm.symm⟩
theorem major3 (W : World) : Calls Try.prog 20 #[.slice (some ⟨W.heap.size, 0, none⟩) 3 3] (W.alloc (.cells #[.int .i64 3, .int .i64 1, .int .i64 2] 3)) fun e w' => e = .returned (.int .i64 2) ∧ Ext W w' := by
  have h := logs_Major (some ⟨W.heap.size, 0, none⟩) 3 3 [3, 1, 2] (W.alloc (.cells #[.int .i64 3, .int .i64 1, .int .i64 2] 3)) (Rd.block W #[.int .i64 3, .int .i64 1, .int .i64 2] 3 3 rfl) (by omega)
  rw [majorB_312] at h
  exact h.mono fun e w' ⟨he, hx⟩ => ⟨he, ((Ext.refl W).alloc _).trans hx⟩
theorem major4 (W : World) : Calls Try.prog 20 #[.slice (some ⟨W.heap.size, 0, none⟩) 4 4] (W.alloc (.cells #[.int .i64 3, .int .i64 1, .int .i64 2, .int .i64 9] 3)) fun e w' => e = .returned (.int .i64 2) ∧ Ext W w' := by
  have h := logs_Major (some ⟨W.heap.size, 0, none⟩) 4 4 [3, 1, 2, 9] (W.alloc (.cells #[.int .i64 3, .int .i64 1, .int .i64 2, .int .i64 9] 3)) (Rd.block W #[.int .i64 3, .int .i64 1, .int .i64 2, .int .i64 9] 3 4 rfl) (by omega)
  rw [majorB_3129] at h
  exact h.mono fun e w' ⟨he, hx⟩ => ⟨he, ((Ext.refl W).alloc _).trans hx⟩

set_option maxRecDepth 100000 in
set_option maxHeartbeats 1600000 in
theorem law17_shown (w : World) : Calls Try.prog 19 #[] w fun e w' => e = .returned (.bool true) ∧ Ext w w' := by
  have h1 := Lib.hid (fun W => logs_Term none 0 0 [] 1 W (Es.nil_ W none) (by omega))
  rw [termB_out [] 1 (by simp)] at h1
  go_enter Try.func19, Try.ntmps19
  go_wp2_with fail
  refine (major3 _).mono ?_
  rintro e w1 ⟨rfl, x1⟩
  go_wp2_with fail
  refine (major4 _).mono ?_
  rintro e w2 ⟨rfl, x2⟩
  go_wp2_with fail
  refine (h1.out _).mono ?_
  rintro e w3 ⟨rfl, rfl⟩
  go_wp2
  go_ret
  exact ⟨rfl, x1.trans x2⟩
end Go.Proofs.Ytcdnjhcddbkciaa
