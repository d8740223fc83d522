/- The walk of varint.Take. -/
import Derived.Test.YtiildgoaiookhaaVarintW
namespace Go.Proofs.Ytiildgoaiookhaa
open Go.RowKit

set_option maxRecDepth 100000 in
set_option maxHeartbeats 400000 in
theorem varint_Take (A : Option Addr) (n c : Nat) (l : List UInt8) (w : World) (hb : Bs w A n l) (hn : n ≤ 1000000) :
    Calls Try.prog 126 #[.slice A n c] w fun e w' => e = .returned (.tuple #[.int .u64 (vtake l).1, .int .i64 (vtake l).2.1, .int .i64 (vtake l).2.2]) ∧ w = w' := by
  have hlen := hb.len
  go_enter Try.func126, Try.ntmps126
  go_wp2; go_step3; go_wp2; go_step3; go_wp2
  go_loop [5, 6, 7, 8, 9] (fun a s e _ k => ∃ (m j : Nat), a = .int .u64 m ∧ s = .int .i64 0 ∧ e = .int .i64 3 ∧ k = .int .i64 j ∧ j ≤ 10 ∧ j ≤ n ∧ m < 128 ^ j ∧ vtake l = vtk (10 - j) (l.drop j) j m) (fun _ _ _ _ k => 10 - (intOf k).toNat)
  case atStart => exact ⟨0, 0, rfl, rfl, rfl, rfl, by omega, by omega, by omega, rfl⟩
  case round =>
    obtain ⟨m, j, rfl, rfl, rfl, rfl, hj, hjn, hm, hv⟩ := hrel
    by_cases hj10 : j < 10
    · by_cases hjl : j < n
      · obtain ⟨b, off, rfl, hc⟩ := hb.at_ hjl
        have hd : l.drop j = l[j] :: l.drop (j + 1) := List.drop_eq_getElem_cons (by omega)
        rw [hd, show 10 - j = (10 - (j + 1)) + 1 by omega] at hv
        have hx256 : l[j].toNat < 256 := l[j].toNat_lt
        rw [vtk] at hv
        generalize l[j].toNat = x at hc hv hx256
        by_cases h1 : 0 < j ∧ x = 0
        · rw [if_pos h1] at hv
          have Hv := Lib.hid hv; clear hv
          obtain ⟨h1, rfl⟩ := h1
          clear hm
          go_wp2
          all_goals (try rw [Exit.noGoto_ret])
          all_goals go_ret3
          all_goals exact ⟨by rw [Hv.out]; rfl, rfl⟩
        · rw [if_neg h1] at hv
          by_cases h2 : j = 9 ∧ 1 < x
          · rw [if_pos h2] at hv
            have Hv := Lib.hid hv; clear hv
            obtain ⟨rfl, h2⟩ := h2
            clear hm
            have hx0 : ((x : Int) == 0) = false := by rw [beq_eq_false_iff_ne]; omega
            go_wp2
            all_goals (try rw [Exit.noGoto_ret])
            all_goals go_ret3
            all_goals exact ⟨by rw [Hv.out]; rfl, rfl⟩
          · rw [if_neg h2] at hv
            have h9 : j < 9 ∨ j = 9 ∧ x ≤ 1 := by omega
            have hs := take_step hm hx256 h9
            have Hs := Lib.hid hs; clear hs
            by_cases h3 : x < 128
            · rw [if_pos h3] at hv
              have Hv := Lib.hid hv; clear hv
              have Hm := Lib.hid hm; clear hm
              by_cases hj9 : j = 9
              · subst hj9
                have hx1 : ((x : Int) ≤ 1) := by omega
                have hx0 : ((x : Int) == 0) = false := by rw [beq_eq_false_iff_ne]; omega
                go_wp2
                all_goals (try rw [Exit.noGoto_ret])
                all_goals go_ret3
                all_goals exact ⟨by rw [Hv.out, ← Hs.out]; rfl, rfl⟩
              · have hj9' : ((j : Int) == 9) = false := by rw [beq_eq_false_iff_ne]; omega
                go_wp2
                all_goals (try rw [Exit.noGoto_ret])
                all_goals go_ret3
                all_goals exact ⟨by rw [Hv.out, ← Hs.out]; rfl, rfl⟩
            · rw [if_neg h3] at hv
              have Hv := Lib.hid hv; clear hv
              have Hm := Lib.hid hm; clear hm
              have h3' : 128 ≤ x := by omega
              have hj9' : ((j : Int) == 9) = false := by rw [beq_eq_false_iff_ne]; omega
              have hx0 : ((x : Int) == 0) = false := by rw [beq_eq_false_iff_ne]; omega
              go_wp2
              all_goals go_round
              all_goals first
                | (case rel => exact ⟨m + x % 128 * 128 ^ j, j + 1, val_int Hs.out, rfl, rfl, val_int (by omega), by omega, by omega, digit_lt Hm.out (by omega), by rw [Hv.out]⟩)
                | (case measure => simp [intOf]; omega)
      · obtain rfl : j = n := by omega
        have hv2 : vtake l = (0, 0, 2) := by
          rw [hv, show 10 - j = (10 - (j + 1)) + 1 by omega, List.drop_of_length_le (by omega), vtk]
        clear hv hm
        have Hv := Lib.hid hv2; clear hv2
        go_wp2
        all_goals (try rw [Exit.noGoto_ret])
        all_goals go_ret3
        all_goals exact ⟨by rw [Hv.out]; rfl, rfl⟩
    · obtain rfl : j = 10 := by omega
      have hv2 : vtake l = (0, 0, 3) := by rw [hv, Nat.sub_self, vtk]
      clear hv hm
      have Hv := Lib.hid hv2; clear hv2
      go_wp2
      all_goals (try rw [Exit.noGoto_ret])
      all_goals go_ret3
      all_goals exact ⟨by rw [Hv.out]; rfl, rfl⟩
end Go.Proofs.Ytiildgoaiookhaa
