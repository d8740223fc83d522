/- The walks of coracleref05.Row and coracleref07.snap. -/
import Derived.Test.YtiildgoaiookhaaStO
namespace Go.Proofs.Ytiildgoaiookhaa
open Go.RowKit

set_option maxRecDepth 100000 in
theorem ref05_in (n lo hi : Int) (b : Bool) (hb : inI n lo hi = b) (w : World) : Calls Try.prog 116 #[.int .i64 n, .int .i64 lo, .int .i64 hi] w fun e w' => e = .returned (.bool b) ∧ w' = w := by
  by_cases h1 : lo ≤ n
  · by_cases h2 : n ≤ hi
    · rw [inI_t h1 h2] at hb; subst hb
      go_enter Try.func116, Try.ntmps116
      go_wp2
      go_ret
      exact ⟨rfl, rfl⟩
    · rw [inI_f (.inr (by omega))] at hb; subst hb
      have j0 : decide (n ≤ hi) = false := dec_f h2
      go_enter Try.func116, Try.ntmps116
      go_wp2
      go_ret
      exact ⟨rfl, rfl⟩
  · rw [inI_f (.inl (by omega))] at hb; subst hb
    have j0 : decide (lo ≤ n) = false := dec_f h1
    go_enter Try.func116, Try.ntmps116
    go_wp2
    go_ret
    exact ⟨rfl, rfl⟩
theorem ref07_in' (n lo hi : Int) (b : Bool) (hb : inI n lo hi = b) (w : World) : Calls Try.prog 56 #[.int .i64 n, .int .i64 lo, .int .i64 hi] w fun e w' => e = .returned (.bool b) ∧ w' = w :=
  (ref07_in n lo hi b hb w).mono fun _ _ ⟨h1, h2⟩ => ⟨h1, h2.symm⟩

set_option maxRecDepth 100000 in
set_option maxHeartbeats 1600000 in
theorem ref05_Row (A : Option Addr) (n c : Nat) (l : List Int) (w : World) (h : Is w A n l) (hn : n ≤ 1000000) :
    Calls Try.prog 94 #[.slice A n c] w fun e w' => e = .returned (.bool (rowChB l)) ∧ Ext w w' := by
  have hlen := h.len
  go_enter Try.func94, Try.ntmps94
  go_wp2_with fail
  go_loopw [3] (fun i wr => ∃ (j : Nat) (a : Int), i = .int .i64 j ∧ j ≤ n ∧ (j = 0 ∧ a = 0 ∨ 0 < j ∧ l[j - 1]? = some a ∧ 0 < a) ∧ upB 0 l = upB a (l.drop j) ∧ Ext w wr) (fun i _ => n - (intOf i).toNat)
  case atStart => exact ⟨0, 0, rfl, by omega, .inl ⟨rfl, rfl⟩, rfl, Ext.refl w⟩
  case round =>
    obtain ⟨j, a, rfl, hj, hpa, hf, hx⟩ := hrel
    by_cases hjn : j < n
    · have hjl : j < l.length := by omega
      obtain ⟨bb, off, rfl, hc⟩ := (h.ext hx).at_ hjn
      rw [List.drop_eq_getElem_cons hjl, upB_cons] at hf
      have Hx1 : Hid (∀ x, l[j] = x → l[j + 1 - 1]? = some x) := Lib.hid (fun x hx => by rw [show j + 1 - 1 = j by omega, List.getElem?_eq_getElem hjl, hx])
      generalize hgx : l[j] = x at *
      have Hx2 := Lib.hid (Hx1.out x rfl)
      clear hgx Hx1
      have hj0 : (0 : Int) ≤ j := by omega
      have hj1 : (j : Int) < n := by omega
      have HI := Lib.hid (fun b hb w => ref05_in x 1 64 b hb w)
      by_cases k0 : inI x 1 64 = true
      case neg =>
        have k1 : inI x 1 64 = false := by simpa using k0
        have hff : upB 0 l = false := by
          rw [hf]
          have : (decide (a < x) && decide (x ≤ 64)) = false := by
            by_cases h1 : a < x
            · by_cases h2 : x ≤ 64
              · exfalso
                refine k0 (inI_t ?_ h2)
                rcases hpa with ⟨_, rfl⟩ | ⟨_, _, h3⟩ <;> omega
              · rw [dec_f h2, Bool.and_false]
            · rw [dec_f h1, Bool.false_and]
          rw [this, Bool.false_and]
        have HF : Hid (rowChB l = false) := Lib.hid (by unfold rowChB; rw [hff, Bool.and_false])
        have HI2 := Lib.hid (fun w => HI.out false k1 w)
        clear hf hff k0 k1 HI hpa Hx2
        go_wp2_with fail
        go_quiet ((go_at_call 116; exact Calls.quiet_of_same (HI2.out _)))
        go_wp2
        go_ret
        exact ⟨by rw [HF.out] <;> rfl, hx.drewN _⟩
      case pos =>
        have HI2 := Lib.hid (fun w => HI.out true k0 w)
        obtain ⟨x1, x64⟩ := inI_iff.1 k0
        rw [dec_t x64, Bool.and_true] at hf
        clear HI k0
        rcases Nat.eq_zero_or_pos j with rfl | hjp
        · have ha0 : a = 0 := by rcases hpa with ⟨_, h⟩ | ⟨h, _⟩; exact h; omega
          subst ha0
          rw [dec_t (by omega), Bool.true_and] at hf
          have HF := Lib.hid hf
          rw [Nat.add_zero] at hc
          clear hf hpa
          go_wp2_with fail
          go_quiet ((go_at_call 116; exact Calls.quiet_of_same (HI2.out _)))
          go_wp2
          go_roundw
          case rel => exact ⟨0 + 1, x, val_int (by omega), by omega, .inr ⟨by omega, Hx2.out, by omega⟩, HF.out, hx.drewN _⟩
          case measure => simp [intOf]; omega
        · obtain ⟨i, rfl⟩ : ∃ i, j = i + 1 := ⟨j - 1, by omega⟩
          have hia : l[i]? = some a := by
            rcases hpa with ⟨h, _⟩ | ⟨_, h, _⟩
            · omega
            · simpa using h
          have hil : i < l.length := by omega
          obtain ⟨b', off', hA', hc'⟩ := (h.ext hx).at_ (show i < n by omega)
          injection hA' with hA'
          injection hA' with hb' ho'
          subst hb' ho'
          have hai : l[i] = a := by rw [List.getElem?_eq_getElem hil] at hia; simpa using hia
          rw [hai] at hc'
          have hw1 : IntKind.i64.wrap (i : Int) = i := IntWalk.i64_in _ (by omega)
          have hw2 : IntKind.i64.wrap ((i : Int) + 1) = (i : Int) + 1 := IntWalk.i64_in _ (by omega)
          have hi0 : (0 : Int) ≤ i := by omega
          have hi1 : (i : Int) < n := by omega
          have hip : decide ((0 : Int) < (i : Int) + 1) = true := dec_t (by omega)
          clear hpa hia hai
          by_cases k2 : a < x
          · rw [dec_t k2, Bool.true_and] at hf
            have HF := Lib.hid hf
            have k3 : decide (x ≤ a) = false := dec_f (by omega)
            clear hf
            go_wp2_with fail
            go_quiet ((go_at_call 116; exact Calls.quiet_of_same (HI2.out _)))
            go_wp2
            go_roundw
            case rel => exact ⟨i + 1 + 1, x, val_int (by omega), by omega, .inr ⟨by omega, Hx2.out, by omega⟩, HF.out, hx.drewN _⟩
            case measure => simp [intOf]; omega
          · rw [dec_f k2, Bool.false_and] at hf
            have HF : Hid (rowChB l = false) := Lib.hid (by unfold rowChB; rw [hf, Bool.and_false])
            have k3 : decide (x ≤ a) = true := dec_t (by omega)
            clear hf
            go_wp2_with fail
            go_quiet ((go_at_call 116; exact Calls.quiet_of_same (HI2.out _)))
            go_wp2
            go_ret
            exact ⟨by rw [HF.out] <;> rfl, hx.drewN _⟩
    · obtain rfl : n = j := by omega
      rw [List.drop_of_length_le (by omega), upB_nil] at hf
      have HF : Hid (rowChB l = (decide (1 ≤ n) && decide (n ≤ 8))) := Lib.hid (by unfold rowChB; rw [hf, Bool.and_true, hlen])
      clear hf hpa
      by_cases k1 : 1 ≤ n
      · by_cases k2 : n ≤ 8
        · have HF2 : Hid (rowChB l = true) := Lib.hid (by rw [HF.out, dec_t k1, dec_t k2]; rfl)
          have j1 : decide ((n : Int) ≤ 8) = true := dec_t (by omega)
          clear HF
          go_wp2
          go_ret
          exact ⟨by rw [HF2.out] <;> rfl, hx⟩
        · have HF2 : Hid (rowChB l = false) := Lib.hid (by rw [HF.out, dec_f k2, Bool.and_false])
          have j1 : decide ((n : Int) ≤ 8) = false := dec_f (by omega)
          clear HF
          go_wp2
          go_ret
          exact ⟨by rw [HF2.out] <;> rfl, hx⟩
      · have HF2 : Hid (rowChB l = false) := Lib.hid (by rw [HF.out, dec_f k1, Bool.false_and])
        have j1 : decide ((1 : Int) ≤ n) = false := dec_f (by omega)
        clear HF
        go_wp2
        go_ret
        exact ⟨by rw [HF2.out] <;> rfl, hx⟩
end Go.Proofs.Ytiildgoaiookhaa
