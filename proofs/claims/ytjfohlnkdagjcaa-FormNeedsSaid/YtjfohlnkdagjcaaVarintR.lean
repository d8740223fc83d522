/- The walk of coracleref01.Take. -/
import Derived.Test.YtjfohlnkdagjcaaVarintW
import Derived.BigQuiet
namespace Go.Proofs.Ytjfohlnkdagjcaa
open Go.RowKit

set_option maxRecDepth 100000 in
set_option maxHeartbeats 1000000 in
theorem ref01_Take (A : Option Addr) (n c : Nat) (l : List UInt8) (w : World) (hb : Bs w A n l) (hn : n ≤ 1000000) (hnc : n ≤ c) :
    Calls Try.prog 50 #[.slice A n c] w fun e w' => e = .returned (.tuple #[.int .u64 (vtake l).1, .int .i64 (vtake l).2.1, .int .i64 (vtake l).2.2]) ∧ Ext w w' := by
  have hlen := hb.len
  go_enter Try.func50, Try.ntmps50
  go_wp2
  go_loop [5, 6] (fun a k => ∃ (m j : Nat), a = .int .u64 m ∧ k = .int .i64 j ∧ j ≤ 10 ∧ j ≤ n ∧ U64 m ∧ (j < 10 → m = vval (l.take j) ∧ (∀ y ∈ l.take j, 128 ≤ y.toNat)) ∧ vtake l = vtk (10 - j) (l.drop j) j (vval (l.take j))) (fun _ k => 10 - (intOf k).toNat)
  case atStart => exact ⟨0, 0, rfl, rfl, by omega, by omega, by unfold U64; omega, fun _ => ⟨rfl, by simp⟩, rfl⟩
  case round =>
    obtain ⟨m, j, rfl, rfl, hj, hjn, hU, hm, hv⟩ := hrel
    by_cases hj10 : j < 10
    · by_cases hjl : j < n
      · obtain ⟨b, off, rfl, hc⟩ := hb.at_ hjl
        obtain ⟨rfl, h128⟩ := hm hj10
        clear hm
        have hd : l.drop j = l[j] :: l.drop (j + 1) := List.drop_eq_getElem_cons (by omega)
        have ht : l.take (j + 1) = l.take j ++ [l[j]] := by rw [List.take_succ_eq_append_getElem]
        have hlt : (l.take j).length = j := by rw [List.length_take]; omega
        have hmj := vval_lt (l.take j)
        rw [hlt] at hmj
        have hva := vval_append (l.take j) l[j]
        rw [hlt, ← ht] at hva
        rw [hd, show 10 - j = (10 - (j + 1)) + 1 by omega] at hv
        have hx256 : l[j].toNat < 256 := l[j].toNat_lt
        rw [vtk] at hv
        obtain ⟨N, hN, hNe, hN1, hN2⟩ := ref_sum _ l[j].toNat j hmj
        have hpos : 1 ≤ c - 0 := by omega
        by_cases h3 : l[j].toNat < 128
        · have hsame := ref_same h128 h3 (by omega) hN (by rw [hlt]; exact hN1) (by rw [hlt]; exact hN2)
          rw [hlt, ← ht] at hsame
          rw [hlt] at *
          have hB := hb.upto (hi := j + 1) (by omega)
          have HN1 := Lib.hid hN1; clear hN1
          clear hd ht hva hmj h128 hN2 hlt
          obtain ⟨x, hx⟩ : ∃ x, l[j].toNat = x := ⟨_, rfl⟩
          obtain ⟨V, hV⟩ : ∃ V, vval (l.take j) = V := ⟨_, rfl⟩
          rw [hx] at hc hv hx256 hNe h3 hsame
          rw [hV] at hv hNe hU ⊢
          have hN1 := HN1.out; clear HN1; rw [hx, hV] at hN1
          have Hx := Lib.hid hx; clear hx
          have HV := Lib.hid hV; clear hV
          have Hv := Lib.hid hv; clear hv
          have Hs := Lib.hid hsame; clear hsame
          have hs0 := run_str (P := Try.prog) (w := w.drew) (dst := 9) Try.underlying22 Try.underlying5 Try.underlying9 hB.drew c
          have hw1 : IntKind.i64.wrap ((j : Int) + 1) = (j : Int) + 1 := IntWalk.i64_in _ (by omega)
          have hw2 : ((j : Int) + 1).toNat = j + 1 := by omega
          have hw3 : (0 : Int) ≤ (j : Int) + 1 := by omega
          by_cases heq : vput N = l.take (j + 1)
          · have hq := bstr_eq heq
            have HN : Hid (N = V + x % 128 * 128 ^ j) := Lib.hid (hN1 (by have := (Hs.out.1 heq).2; omega))
            have HE : Hid (¬ (0 < j ∧ x = 0) ∧ ¬ (j = 9 ∧ 1 < x)) := Lib.hid (Hs.out.1 heq)
            clear hN1 heq
            go_wp2
            go_region_with (go_at_call 26; refine (ref01_Put N hN _).mono ?_; rintro e w1 ⟨v, rfl, hown, hx1⟩; obtain ⟨A1, c1, rfl, hc1⟩ := own_form hown; have hs1 := run_str (P := Try.prog) (dst := 9) Try.underlying22 Try.underlying5 Try.underlying9 (Bs.of_own hown) c1; have hs2 := run_str (P := Try.prog) (dst := 9) Try.underlying22 Try.underlying5 Try.underlying9 (hB.drew.ext hx1) c; clear hown)
            all_goals go_wp2
            all_goals go_ret3
            all_goals refine ⟨?_, (Ext.refl w).drew.trans hx1⟩
            all_goals rw [Hv.out, if_neg HE.out.1, if_neg HE.out.2, if_pos h3, HN.out]; rfl
          · have hq := bstr_ne heq
            have HE : Hid (¬ (¬ (0 < j ∧ x = 0) ∧ ¬ (j = 9 ∧ 1 < x))) := Lib.hid (fun h => heq (Hs.out.2 h))
            clear hN1 heq
            go_wp2
            go_region_with (go_at_call 26; refine (ref01_Put N hN _).mono ?_; rintro e w1 ⟨v, rfl, hown, hx1⟩; obtain ⟨A1, c1, rfl, hc1⟩ := own_form hown; have hs1 := run_str (P := Try.prog) (dst := 9) Try.underlying22 Try.underlying5 Try.underlying9 (Bs.of_own hown) c1; have hs2 := run_str (P := Try.prog) (dst := 9) Try.underlying22 Try.underlying5 Try.underlying9 (hB.drew.ext hx1) c; clear hown)
            all_goals go_wp2
            all_goals go_ret3
            all_goals refine ⟨?_, (Ext.refl w).drew.trans hx1⟩
            all_goals
              rw [Hv.out]
              by_cases g1 : 0 < j ∧ x = 0
              · rw [if_pos g1]; rfl
              · rw [if_neg g1, if_pos (by have := HE.out; omega)]; rfl
        · have hU2 : U64 N := hN
          have hvd : ¬ (0 < j ∧ l[j].toNat = 0) := by omega
          rw [if_neg hvd] at hv
          have ht128 : ∀ y ∈ l.take (j + 1), 128 ≤ y.toNat := by
            rw [ht]; intro y hy
            rcases List.mem_append.1 hy with hy | hy
            · exact h128 y hy
            · simp only [List.mem_singleton] at hy; subst hy; omega
          have hvn : vtake l = vtk (10 - (j + 1)) (l.drop (j + 1)) (j + 1) (vval (l.take (j + 1))) := by
            rw [hv, hva]
            by_cases g : j = 9
            · rw [if_pos ⟨g, by omega⟩, show 10 - (j + 1) = 0 by omega, vtk]
            · rw [if_neg (fun h => g h.1), if_neg h3]
          have hNn : j + 1 < 10 → N = vval (l.take (j + 1)) := fun h => by rw [hva]; exact hN1 (by omega)
          have Hvn := Lib.hid hvn
          have HNn := Lib.hid hNn
          have Ht128 := Lib.hid ht128
          clear hvn hNn ht128 hv hva ht hd hN1 hN2 hvd h128 hmj
          generalize vval (l.take j) = V at *
          have h3' : 128 ≤ l[j].toNat := by omega
          generalize l[j].toNat = x at hc hx256 hNe h3 h3'
          go_wp2
          go_round
          case rel => exact ⟨N, j + 1, rfl, val_int (by omega), by omega, by omega, hN, fun h => ⟨HNn.out h, Ht128.out⟩, Hvn.out⟩
          case measure => simp [intOf]; omega
      · obtain rfl : j = n := by omega
        have hv2 : vtake l = (0, 0, 2) := by
          rw [hv, show 10 - j = (10 - (j + 1)) + 1 by omega, List.drop_of_length_le (by omega), vtk]
        clear hv hm
        have Hv := Lib.hid hv2; clear hv2
        go_wp2
        go_ret3
        exact ⟨by rw [Hv.out]; rfl, Ext.refl w⟩
    · obtain rfl : j = 10 := by omega
      have hv2 : vtake l = (0, 0, 3) := by rw [hv, Nat.sub_self, vtk]
      clear hv hm
      have Hv := Lib.hid hv2; clear hv2
      go_wp2
      go_ret3
      exact ⟨by rw [Hv.out]; rfl, Ext.refl w⟩
end Go.Proofs.Ytjfohlnkdagjcaa
