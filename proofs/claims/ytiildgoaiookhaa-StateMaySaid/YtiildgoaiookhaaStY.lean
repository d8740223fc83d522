/- The walk of coracleref07.Kept. -/
import Derived.Test.YtiildgoaiookhaaStO
namespace Go.Proofs.Ytiildgoaiookhaa
open Go.RowKit

set_option maxRecDepth 100000 in
set_option maxHeartbeats 1600000 in
theorem ref07_Kept (s : KV) (at_ : Int) (w : World) (hs : s.Ok w) (hn : s.n3 ≤ 1000000) :
    Calls Try.prog 29 #[s.val, .int .i64 at_] w fun e w' => e = .returned (.bool (keptB s.keep s.sns at_)) ∧ Ext w w' := by
  have ht := hs.t3
  obtain ⟨ver, next, keep, quota, A1, n1, c1, ses, A2, n2, c2, ops, A3, n3, c3, sns⟩ := s
  unfold KV.val
  dsimp only at hn ht ⊢
  have hlen := ht.len
  clear hs
  have hB0 := Blk.new w 26 [.int .i64 ver, .int .i64 next, .int .i64 keep, .int .i64 quota, .slice A1 n1 c1, .slice A2 n2 c2, .slice A3 n3 c3]
  by_cases h0 : at_ < 0
  · rw [keptB_out _ _ _ (.inl h0)]
    go_enter Try.func29, Try.ntmps29
    go_wp2
    go_ret
    exact ⟨rfl, (Ext.refl w).alloc _⟩
  · by_cases h1 : (n3 : Int) ≤ at_
    · rw [keptB_out _ _ _ (.inr (by omega))]
      have h2 : decide (at_ < 0) = false := dec_f h0
      go_enter Try.func29, Try.ntmps29
      go_wp2
      go_ret
      exact ⟨rfl, (Ext.refl w).alloc _⟩
    · obtain ⟨i, rfl⟩ := Int.eq_ofNat_of_zero_le (show 0 ≤ at_ by omega)
      have hin : i < n3 := by omega
      have hil : i < sns.length := by omega
      have hi0 : (0 : Int) ≤ i := by omega
      have hi1 : (i : Int) < n3 := by omega
      have hw1 : IntKind.i64.wrap ((i : Int) + 1) = (i : Int) + 1 := IntWalk.i64_in _ (by omega)
      rw [keptB_at _ _ _ hil]
      obtain ⟨bb0, off0, rfl, hlt0, hc0⟩ := ht.at_ hin
      have k1 : w.cell? ⟨bb0, off0 + i * 5 + 1, none⟩ = some (.int .i64 sns[i].set) := hc0 1 (by omega)
      clear hc0
      generalize sns[i].set = S at *
      go_enter Try.func29, Try.ntmps29
      go_wp2_with fail
      clear hw1
      go_loopw [5, 6] (fun q q6 wr => ∃ k : Nat, q6 = .int .i64 k ∧ i + 1 ≤ k ∧ k ≤ n3 ∧ q = .int .i64 ((cntS S (sns.drop (i + 1)) : Int) - cntS S (sns.drop k)) ∧ cntS S (sns.drop k) ≤ cntS S (sns.drop (i + 1)) ∧ Blk wr w.heap.size 26 [.int .i64 ver, .int .i64 next, .int .i64 keep, .int .i64 quota, .slice A1 n1 c1, .slice A2 n2 c2, .slice (some ⟨bb0, off0, none⟩) n3 c3] ∧ Ext w wr) (fun _ q6 _ => n3 - (intOf q6).toNat)
      case atStart => exact ⟨i + 1, val_int (by omega), Nat.le_refl _, by omega, val_int (by omega), Nat.le_refl _, hB0, (Ext.refl w).alloc _⟩
      case round =>
        clear hB0
        obtain ⟨k, rfl, hk1, hk, rfl, hcl, hB, hx⟩ := hrel
        have hTl := cntS_le S (sns.drop (i + 1))
        have hTl2 : (sns.drop (i + 1)).length ≤ n3 := by rw [List.length_drop]; omega
        have d6 := hB.cell 6
        have d2 := hB.cell 2
        simp only [List.getElem?_cons_zero, List.getElem?_cons_succ] at d6 d2
        have HB := Lib.hid hB
        clear hB
        by_cases hkn : k < n3
        · obtain ⟨bb, off, hA, hlt, hc⟩ := (ht.ext hx).at_ hkn
          injection hA with hA
          injection hA with hb' ho'
          subst hb' ho'
          have hkl : k < sns.length := by omega
          have hsn : cntS S (sns.drop k) = (if sns[k].set = S then 1 else 0) + cntS S (sns.drop (k + 1)) := by rw [List.drop_eq_getElem_cons hkl, cntS_cons]
          generalize sns[k] = f at *
          have c1_ : wr.cell? ⟨bb0, off0 + k * 5 + 1, none⟩ = some (.int .i64 f.set) := hc 1 (by omega)
          have k2 := hx.cell k1
          clear hc
          generalize cntS S (sns.drop (i + 1)) = T at *
          generalize cntS S (sns.drop k) = K at *
          generalize hK1 : cntS S (sns.drop (k + 1)) = K1 at *
          have HK1 := Lib.hid hK1
          have HSn := Lib.hid hsn
          have kk0 : (0 : Int) ≤ k := by omega
          have kk1 : (k : Int) < n3 := by omega
          clear hK1
          by_cases hS : f.set = S
          · rw [if_pos hS] at hsn
            have hk' := beq_t hS
            clear hS
            go_wp2_with fail
            go_quiet (fail)
            go_wp2_with fail
            go_roundw
            case rel => exact ⟨k + 1, val_int (by omega), by omega, by omega, by rw [HK1.out] <;> exact val_int (by omega), by rw [HK1.out] <;> omega, HB.out.ext ((Ext.refl _).drewN _), hx.drewN _⟩
            case measure => simp [intOf]; omega
          · rw [if_neg hS] at hsn
            have hk' := beq_f hS
            clear hS
            go_wp2_with fail
            go_quiet (fail)
            go_wp2_with fail
            go_roundw
            case rel => exact ⟨k + 1, val_int (by omega), by omega, by omega, by rw [HK1.out] <;> exact val_int (by omega), by rw [HK1.out] <;> omega, HB.out.ext ((Ext.refl _).drewN _), hx.drewN _⟩
            case measure => simp [intOf]; omega
        · obtain rfl : n3 = k := by omega
          rw [List.drop_of_length_le (show sns.length ≤ n3 by omega), show cntS S [] = 0 from rfl]
          rw [show ((cntS S (sns.drop (i + 1)) : Int) - ((0 : Nat) : Int)) = (cntS S (sns.drop (i + 1)) : Int) from Int.sub_zero _]
          go_wp2
          go_ret
          exact ⟨rfl, hx⟩
end Go.Proofs.Ytiildgoaiookhaa
