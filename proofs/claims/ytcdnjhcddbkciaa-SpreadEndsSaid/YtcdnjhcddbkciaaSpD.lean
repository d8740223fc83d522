/- The head of layer 19's laws. -/
import Derived.Test.YtcdnjhcddbkciaaSpB
namespace Go.Proofs.Ytcdnjhcddbkciaa
open Go.RowKit

def shE : EV := ⟨2, none, 0, 0, []⟩
def shS : SV := ⟨0, 1, 0, none, 0, 0, []⟩
def shX (k : Nat) : LV := ⟨3, 1, 0, 2, 0, 0, 0, 1, false, some ⟨k, 0, none⟩, 1, 1, [shE]⟩
theorem shown_L : takeL 1 [] 2 0 [shE] = [voteR 2 0, ⟨3, 1, 2, none, 0, 0, []⟩] := rfl
theorem shE_ok (w : World) : shE.Ok w := ⟨Bs.nil_ w none, Nat.le_refl _, by unfold maxLen; exact Nat.zero_le _, ⟨by decide, by decide⟩⟩
theorem i64_small {n : Int} (h0 : 0 ≤ n) (h1 : n ≤ 1000) : I64 n := ⟨by omega, by omega⟩

set_option maxRecDepth 100000 in
set_option maxHeartbeats 1600000 in
theorem law19_shown (w : World) : Calls Try.prog 51 #[] w fun e w' => e = .returned (.bool true) ∧ Ext w w' := by
  have hT := take_yes shS (shX w.heap.size) ((w.alloc (.cells #[.int .i64 2, .slice none 0 0] 36)).alloc (.cells #[.int .i64 3, .int .i64 1, .int .i64 0, .int .i64 2, .int .i64 0, .int .i64 0, .int .i64 0, .int .i64 1, .bool false, .slice (some ⟨w.heap.size, 0, none⟩) 1 1] 47))
    ⟨Es.nil_ _ _, Nat.le_refl _, by unfold maxLen; exact Nat.zero_le _, i64_small (by decide) (by decide), i64_small (by decide) (by decide), i64_small (by decide) (by decide)⟩
    ⟨⟨(Rd.block w #[.int .i64 2, .slice none 0 0] 36 1 rfl).alloc _, fun f hf => by rw [List.mem_singleton.1 hf]; exact shE_ok _⟩, Nat.le_refl _, by unfold maxLen; exact Nat.le_of_ble_eq_true rfl, (i64_small (by decide) (by decide) : I64 3), (i64_small (by decide) (by decide) : I64 1), (i64_small (by decide) (by decide) : I64 0), (i64_small (by decide) (by decide) : I64 2), (i64_small (by decide) (by decide) : I64 0), (i64_small (by decide) (by decide) : I64 0), (i64_small (by decide) (by decide) : I64 0), (i64_small (by decide) (by decide) : I64 1)⟩
    (by decide) (show (1 : Nat) ≤ 1000 by decide) (by rfl) rfl (show (0 : Int) + ((1 : Nat) : Int) ≤ 64 by decide) (show ¬ (2 : Int) < 1 by decide) rfl
  unfold shS shX SV.val LV.val at hT
  dsimp only at hT
  rw [shown_L] at hT
  have HT := Lib.hid hT
  clear hT
  go_enter Try.func51, Try.ntmps51
  go_wp2_with fail
  refine HT.out.mono ?_
  rintro e w1 ⟨v, rfl, hown, x1⟩
  clear HT
  obtain ⟨A1, c1, rfl, _⟩ := own_form hown
  have x2 : Ext w w1 := (((Ext.refl w).alloc _).alloc _).trans x1
  have hr := Rd.of_own hown
  obtain ⟨b, off, rfl, _, hc⟩ := hr.2 (by decide)
  have p0 : w1.cell? ⟨b, off, none⟩ = some (.int .i64 2) := hc 0 _ rfl
  have p4 : w1.cell? ⟨b, off + 4, none⟩ = some (.int .i64 3) := hc 4 _ rfl
  have p5 : w1.cell? ⟨b, off + 5, none⟩ = some (.int .i64 1) := hc 5 _ rfl
  clear hr hc hown
  go_wp2
  go_ret
  exact ⟨rfl, x2⟩
end Go.Proofs.Ytcdnjhcddbkciaa
