/- The walk of the law TagOnce. -/
import Derived.Test.YtjfohlnkdagjcaaTagB
namespace Go.Proofs.Ytjfohlnkdagjcaa
open Go.RowKit

theorem and1023 (a : Int) : ∃ z : Nat, z < 1024 ∧ bits .and .i64 a 1023 = (z : Int) := by
  refine ⟨((BitVec.ofInt 64 a) &&& (BitVec.ofInt 64 1023)).toNat, ?_, ?_⟩
  · rw [BitVec.toNat_and]
    have : (BitVec.ofInt 64 1023).toNat = 1023 := by decide
    rw [this]
    have := Nat.and_le_right (n := (BitVec.ofInt 64 a).toNat) (m := 1023)
    omega
  · show IntKind.i64.wrap (((BitVec.ofInt 64 a) &&& (BitVec.ofInt 64 1023)).toNat : Int) = _
    have h : ((BitVec.ofInt 64 a) &&& (BitVec.ofInt 64 1023)).toNat ≤ 1023 := by
      rw [BitVec.toNat_and]
      have : (BitVec.ofInt 64 1023).toNat = 1023 := by decide
      rw [this]
      exact Nat.and_le_right
    exact IntWalk.i64_in _ (by omega)

/-- the first bytes of two tags are alike just if the fields are -/
theorem tag_once {x y a b : Nat} (ha : TagMay x a) (hb : TagMay y b) :
    ((vput (8 * x + a)).take (min (vput (8 * x + a)).length (vput (8 * y + b)).length) = (vput (8 * y + b)).take (min (vput (8 * x + a)).length (vput (8 * y + b)).length)) ↔ x = y ∧ a = b := by
  constructor
  · intro h
    have ha' := ha
    have hb' := hb
    obtain ⟨_, _, _⟩ := ha
    obtain ⟨_, _, _⟩ := hb
    have key : vput (8 * x + a) = vput (8 * y + b) := by
      by_cases h1 : 8 * x + a < 128 <;> by_cases h2 : 8 * y + b < 128
      · rw [vput_small h1, vput_small h2] at h ⊢
        simpa using h
      · rw [vput_small h1, vput_big h2, vput_small (by omega)] at h
        have : UInt8.ofNat (8 * x + a) = UInt8.ofNat ((8 * y + b) % 128 + 128) := by simpa using h
        have := congrArg UInt8.toNat this
        simp at this
        omega
      · rw [vput_small h2, vput_big h1, vput_small (by omega)] at h
        have : UInt8.ofNat ((8 * x + a) % 128 + 128) = UInt8.ofNat (8 * y + b) := by simpa using h
        have := congrArg UInt8.toNat this
        simp at this
        omega
      · rw [vput_big h1, vput_big h2, vput_small (by omega), vput_small (by omega)] at h ⊢
        simpa using h
    have := congrArg vval key
    rw [vval_put, vval_put] at this
    omega
  · rintro ⟨rfl, rfl⟩; rfl

theorem tag_Put_i (num wire : Nat) (x y : Int) (hm : TagMay num wire) (hx : x = num) (hy : y = wire) (w : World) :
    Calls Try.prog 20 #[.int .i64 x, .int .i64 y] w fun e w' => ∃ v, e = .returned (.tuple #[v, .int .i64 0]) ∧ w'.ownsRow w.heap.size 5 1 v (vput (8 * num + wire)).length ((vput (8 * num + wire)).map bv) ∧ Ext w w' := hx ▸ hy ▸ tag_Put_ok num wire hm w

set_option maxRecDepth 100000 in
set_option maxHeartbeats 1600000 in
theorem law_TagOnce (a b : Int) (p q : Bool) (w : World) :
    Calls Try.prog 6 #[.int .i64 a, .int .i64 b, .agg #[.bool p, .bool q]] w fun e w' => e = .returned (.bool true) ∧ Ext w w' := by
  obtain ⟨za, hza, ea⟩ := and1023 a
  obtain ⟨zb, hzb, eb⟩ := and1023 b
  go_enter Try.func6, Try.ntmps6
  go_wp2_with fail
  refine (law02_shown _).mono ?_
  rintro e w1 ⟨rfl, x1⟩
  have hp : w1.cell? ⟨w.heap.size, 0, none⟩ = some (.bool p) := x1.cell (by simp)
  have hq : w1.cell? ⟨w.heap.size, 1, none⟩ = some (.bool q) := x1.cell (by simp)
  have hz : w.heap.size < w1.heap.size := by have := x1.size; simp at this; omega
  go_wp2
  have hblk : Blk (w1.alloc (.cells #[.int .i64 2, .int .i64 2] 39)) w1.heap.size 39 [.int .i64 2, .int .i64 2] := Blk.new w1 _ [.int .i64 2, .int .i64 2]
  have hx1 : Ext w w1 := ((Ext.refl w).alloc _).trans x1
  go_loopw [11] (fun i wr => ∃ k : Nat, k ≤ 2 ∧ i = .int .i64 k ∧ Blk wr w1.heap.size 39 [.int .i64 (if 1 ≤ k ∧ p = true then 0 else 2), .int .i64 (if 2 ≤ k ∧ q = true then 0 else 2)] ∧ Ext w1 wr) (fun i _ => 2 - (intOf i).toNat)
  case atStart => exact ⟨0, by omega, rfl, by simpa using hblk, (Ext.refl w1).alloc _⟩
  case round =>
    obtain ⟨k, hk, rfl, hbk, hxr⟩ := hrel
    have hp' := hxr.cell hp
    have hq' := hxr.cell hq
    have hf0 := hbk.frozen 0
    have hf1 := hbk.frozen 1
    have hc0 := hbk.cell 0
    have hc1 := hbk.cell 1
    simp only [List.getElem?_cons_zero, List.getElem?_cons_succ] at hc0 hc1
    rcases (show k = 0 ∨ k = 1 ∨ k = 2 by omega) with rfl | rfl | rfl
    · cases p
      · go_wp2
        go_roundw
        case rel => exact ⟨1, by omega, rfl, by simpa using hbk, hxr⟩
        case measure => simp [intOf]
      · go_wp2
        go_roundw
        case rel => exact ⟨1, by omega, rfl, by simpa using hbk.set_ 0 (.int .i64 0), hxr.setCell (by simp) _⟩
        case measure => simp [intOf]
    · cases q
      · go_wp2
        go_roundw
        case rel => exact ⟨2, by omega, rfl, by simpa using hbk, hxr⟩
        case measure => simp [intOf]
      · go_wp2
        go_roundw
        case rel => exact ⟨2, by omega, rfl, by simpa using hbk.set_ 1 (.int .i64 0), hxr.setCell (by simp) _⟩
        case measure => simp [intOf]
    · obtain ⟨wa, hwa, hva⟩ : ∃ wa : Nat, (wa = 0 ∨ wa = 2) ∧ (if 1 ≤ 2 ∧ p = true then (0 : Int) else 2) = wa := by
        cases p
        · exact ⟨2, by omega, by simp⟩
        · exact ⟨0, by omega, by simp⟩
      obtain ⟨wb, hwb, hvb⟩ : ∃ wb : Nat, (wb = 0 ∨ wb = 2) ∧ (if 2 ≤ 2 ∧ q = true then (0 : Int) else 2) = wb := by
        cases q
        · exact ⟨2, by omega, by simp⟩
        · exact ⟨0, by omega, by simp⟩
      have hpw1 : (1 : Nat) ≤ 2 := by omega
      simp only [Nat.le_refl, true_and, hpw1] at hc0 hc1 hva hvb
      rw [hva] at hc0
      rw [hvb] at hc1
      clear hva hvb hbk hp' hq' hf0 hf1 hblk hpw1 hk hp hq
      have hma : TagMay (1 + za % 1000) wa := ⟨by omega, by omega, hwa⟩
      have hmb : TagMay (1 + zb % 1000) wb := ⟨by omega, by omega, hwb⟩
      have hz2 := hxr.size
      have hiff := tag_once hma hmb
      have hla := tag_len hma
      have hlb := tag_len hmb
      have HA := Lib.hid hma
      have HB := Lib.hid hmb
      clear hma hmb hwa hwb
      obtain ⟨X, hX⟩ : ∃ X, X = 1 + za % 1000 := ⟨_, rfl⟩
      obtain ⟨Y, hY⟩ : ∃ Y, Y = 1 + zb % 1000 := ⟨_, rfl⟩
      have hX' : (1 + (za : Int) % 1000) = X := by omega
      have hY' : (1 + (zb : Int) % 1000) = Y := by omega
      rw [← hX] at hiff hla
      rw [← hY] at hiff hlb
      rw [← hX] at HA
      rw [← hY] at HB
      have hPa := fun w => tag_Put_ok X wa HA.out w
      have hPb := fun w => tag_Put_ok Y wb HB.out w
      generalize vput (8 * X + wa) = U at *
      generalize vput (8 * Y + wb) = V at *
      have HPa := Lib.hid hPa
      have HPb := Lib.hid hPb
      clear hPa hPb HA HB hX hY
      have hlu : (U.length : Int) = 1 ∧ (X : Int) < 16 ∨ (U.length : Int) = 2 ∧ 16 ≤ (X : Int) := by rw [hla]; split <;> omega
      have hlv : (V.length : Int) = 1 ∨ (V.length : Int) = 2 := by rw [hlb]; split <;> omega
      clear hla hlb
      have key : ∀ same : Bool, same = ((X : Int) == Y && (wa : Int) == wb) → ((bstr (U.take (min U.length V.length))).toList == (bstr (V.take (min U.length V.length))).toList) = same := by
        intro same hs
        rw [hs]
        by_cases h : X = Y ∧ wa = wb
        · rw [bstr_eq (hiff.2 h), h.1, h.2]; simp
        · rw [bstr_ne (fun hh => h (hiff.1 hh))]
          symm
          rw [Bool.and_eq_false_iff]
          by_cases h1 : X = Y
          · exact .inr (beq_f (by intro hh; exact h ⟨h1, by omega⟩))
          · exact .inl (beq_f (by omega))
      have hsame : ((X : Int) == Y) = true ∧ ((wa : Int) == wb) = true ∧ ((bstr (U.take (min U.length V.length))).toList == (bstr (V.take (min U.length V.length))).toList) = true ∨
          ((X : Int) == Y) = true ∧ ((wa : Int) == wb) = false ∧ ((bstr (U.take (min U.length V.length))).toList == (bstr (V.take (min U.length V.length))).toList) = false ∨
          ((X : Int) == Y) = false ∧ ((bstr (U.take (min U.length V.length))).toList == (bstr (V.take (min U.length V.length))).toList) = false := by
        rcases hb1 : ((X : Int) == Y) with _ | _
        · exact .inr (.inr ⟨rfl, key false (by simp [hb1])⟩)
        · rcases hb2 : ((wa : Int) == wb) with _ | _
          · exact .inr (.inl ⟨rfl, rfl, key false (by simp [hb1, hb2])⟩)
          · exact .inl ⟨rfl, rfl, key true (by simp [hb1, hb2])⟩
      clear key hiff
      go_wp2_with fail
      try rw [hX']
      refine (HPa.out _).mono ?_
      rintro e w3 ⟨v3, rfl, hown3, x3⟩
      obtain ⟨A3, c3, rfl, hc3⟩ := own_form hown3
      have b3 := Bs.of_own hown3
      have hc0' := x3.cell hc0
      have hc1' := x3.cell hc1
      have hz3 := x3.size
      clear hc0 hc1 hown3
      go_wp2_with fail
      try rw [hY']
      refine (HPb.out _).mono ?_
      rintro e w4 ⟨v4, rfl, hown4, x4⟩
      obtain ⟨A4, c4, rfl, hc4⟩ := own_form hown4
      have b4 := Bs.of_own hown4
      have hc0'' := x4.cell hc0'
      have hc1'' := x4.cell hc1'
      have hx : Ext w w4 := ((hx1.trans hxr).trans x3).trans x4
      have b3' := b3.ext x4
      clear hc0' hc1' hown4 b3 x4 x3 hx1 hxr hz hz2 hz3
      have hsA := fun k => str_at (Bs.upto (b3'.drewN k) (hi := min U.length V.length) (by omega)) c3
      have hsB := fun k => str_at (Bs.upto (b4.drewN k) (hi := min U.length V.length) (by omega)) c4
      clear b3' b4
      generalize U.take (min U.length V.length) = U' at *
      generalize V.take (min U.length V.length) = V' at *
      clear hX' hY'
      have hM : ∃ M, M = min U.length V.length := ⟨_, rfl⟩
      obtain ⟨M, hM⟩ := hM
      rw [← hM] at hsA hsB
      generalize U.length = n1 at *
      generalize V.length = n2 at *
      have hcs : (n1 = 1 ∧ (X : Int) < 16 ∨ n1 = 2 ∧ 16 ≤ (X : Int)) ∧ (n2 = 1 ∨ n2 = 2) := by omega
      clear hlu hlv
      rcases hcs with ⟨⟨rfl, hX16⟩ | ⟨rfl, hX16⟩, rfl | rfl⟩
      · obtain rfl : M = 1 := by omega
        clear hM
        rcases hsame with ⟨g1, g2, g3⟩ | ⟨g1, g2, g3⟩ | ⟨g1, g3⟩
        all_goals
          go_wp2
          go_quiet (fail)
          go_wp2
          go_ret
          exact ⟨rfl, hx.drewN _⟩
      · obtain rfl : M = 1 := by omega
        clear hM
        rcases hsame with ⟨g1, g2, g3⟩ | ⟨g1, g2, g3⟩ | ⟨g1, g3⟩
        all_goals
          go_wp2
          go_quiet (fail)
          go_wp2
          go_ret
          exact ⟨rfl, hx.drewN _⟩
      · obtain rfl : M = 1 := by omega
        clear hM
        have hd : decide ((X : Int) < 16) = false := dec_f (by omega)
        have hd2 : ¬ ((X : Int) < 16) := by omega
        rcases hsame with ⟨g1, g2, g3⟩ | ⟨g1, g2, g3⟩ | ⟨g1, g3⟩
        all_goals
          go_wp2
          go_quiet (fail)
          go_wp2
          go_ret
          exact ⟨rfl, hx.drewN _⟩
      · obtain rfl : M = 2 := by omega
        clear hM
        have hd : decide ((X : Int) < 16) = false := dec_f (by omega)
        have hd2 : ¬ ((X : Int) < 16) := by omega
        rcases hsame with ⟨g1, g2, g3⟩ | ⟨g1, g2, g3⟩ | ⟨g1, g3⟩
        all_goals
          go_wp2
          go_quiet (fail)
          go_wp2
          go_ret
          exact ⟨rfl, hx.drewN _⟩
end Go.Proofs.Ytjfohlnkdagjcaa
