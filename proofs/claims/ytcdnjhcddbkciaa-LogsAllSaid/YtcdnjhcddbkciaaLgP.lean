/- The document's Major of layer 17. -/
import Derived.Test.YtcdnjhcddbkciaaLgH
namespace Go.Proofs.Ytcdnjhcddbkciaa
open Go.RowKit

/-- the greatest of the first ones that more than half are not below -/
def MR (l : List Int) (j : Nat) (b : Int) (f : Bool) : Prop := (f = false → b = 0 ∧ ∀ y ∈ l.take j, ¬ majB l y) ∧ (f = true → majB l b ∧ ∀ y ∈ l.take j, majB l y → y ≤ b)
theorem mem_snoc {l : List Int} {j : Nat} (h : j < l.length) {y : Int} (hy : y ∈ l.take (j + 1)) : y ∈ l.take j ∨ y = l[j] := by
  rw [List.take_succ_eq_append_getElem h, List.mem_append, List.mem_singleton] at hy
  exact hy
theorem MR.no {l : List Int} {j : Nat} {b : Int} {f : Bool} (h : MR l j b f) (hj : j < l.length) (hm : ¬ majB l l[j]) : MR l (j + 1) b f :=
  ⟨fun e => ⟨(h.1 e).1, fun y hy => by
    rcases mem_snoc hj hy with q | q
    · exact (h.1 e).2 y q
    · rw [q]; exact hm⟩, fun e => ⟨(h.2 e).1, fun y hy hmy => by
    rcases mem_snoc hj hy with q | q
    · exact (h.2 e).2 y q hmy
    · exact absurd (q ▸ hmy) hm⟩⟩
theorem MR.new {l : List Int} {j : Nat} {b : Int} {f : Bool} (h : MR l j b f) (hj : j < l.length) (hm : majB l l[j]) (hb : f = true → b < l[j]) : MR l (j + 1) l[j] true :=
  ⟨fun e => (by cases e), fun _ => ⟨hm, fun y hy hmy => by
    rcases mem_snoc hj hy with q | q
    · rcases f with _ | _
      · exact absurd hmy ((h.1 rfl).2 y q)
      · have := (h.2 rfl).2 y q hmy
        have := hb rfl
        omega
    · omega⟩⟩
theorem MR.old {l : List Int} {j : Nat} {b : Int} (h : MR l j b true) (hj : j < l.length) (hb : l[j] ≤ b) : MR l (j + 1) b true :=
  ⟨fun e => (by cases e), fun _ => ⟨(h.2 rfl).1, fun y hy hmy => by
    rcases mem_snoc hj hy with q | q
    · exact (h.2 rfl).2 y q hmy
    · omega⟩⟩
theorem MR.end_ {l : List Int} {b : Int} {f : Bool} (h : MR l l.length b f) : b = majorB l := by
  unfold MR at h
  rw [List.take_length] at h
  by_cases hl : l = []
  · subst hl
    rcases f with _ | _
    · rw [majorB_nil]; exact (h.1 rfl).1
    · have := (h.2 rfl).1
      simp [majB, cntB] at this
  · rcases f with _ | _
    · exact absurd (majorB_maj hl) ((h.1 rfl).2 _ (majorB_mem hl))
    · obtain ⟨h1, h2⟩ := h.2 rfl
      refine (majorB_eq hl h1 fun z hz hzm hmz => ?_).symm
      have := h2 z hzm hmz
      omega

set_option maxRecDepth 100000 in
set_option maxHeartbeats 1600000 in
theorem ref17_Major (A : Option Addr) (n c : Nat) (l : List Int) (w : World) (h : Is w A n l) (hn : n ≤ 1000) :
    Calls Try.prog 35 #[.slice A n c] w fun e w' => e = .returned (.int .i64 (majorB l)) ∧ Ext w w' := by
  have hlen := h.len
  go_enter Try.func35, Try.ntmps35
  go_wp2
  go_loopw [3, 4, 5] (fun v3 v4 v5 wr => ∃ (j : Nat) (b : Int) (f : Bool), v3 = .int .i64 b ∧ v4 = .bool f ∧ v5 = .int .i64 j ∧ j ≤ n ∧ Hid (MR l j b f) ∧ Ext w wr) (fun _ _ i _ => n - (intOf i).toNat)
  case atStart => exact ⟨0, 0, false, rfl, rfl, rfl, by omega, Lib.hid ⟨fun _ => ⟨rfl, by simp⟩, fun e => (by cases e)⟩, Ext.refl w⟩
  case round =>
    obtain ⟨j, b, f, rfl, rfl, rfl, hj, HM, hx⟩ := hrel
    by_cases hjn : j < n
    · have hjl : j < l.length := by omega
      obtain ⟨bb, off, rfl, cy⟩ := h.at_ hjn
      have HNO := Lib.hid (fun hm => HM.out.no hjl hm)
      have HNEW := Lib.hid (fun hm hb => HM.out.new hjl hm hb)
      have HOLD : Hid (∀ e : f = true, l[j] ≤ b → MR l (j + 1) b f) := Lib.hid (fun e hb => by subst e; exact HM.out.old hjl hb)
      have hY : Hid (∀ k, (hk : k < n) → (hk2 : k < l.length) → w.cell? ⟨bb, off + k, none⟩ = some (.int .i64 l[k])) := Lib.hid (fun k hk hk2 => by
        obtain ⟨b2, o2, e2, c2⟩ := h.at_ hk
        injection e2 with e2
        injection e2 with e2 e3
        subst e2 e3
        exact c2)
      have hS := Lib.hid (fun k hk => cntB_snoc l[j] l k hk)
      generalize l[j] = y at *
      go_wp2
      go_loopw [6, 7] (fun v6 v7 wi => ∃ (k a : Nat), v6 = .int .i64 a ∧ v7 = .int .i64 k ∧ k ≤ n ∧ Hid (a = cntB y (l.take k)) ∧ Ext wr wi) (fun _ i _ => n - (intOf i).toNat)
      case atStart => exact ⟨0, 0, rfl, rfl, by omega, Lib.hid (by simp [cntB]), Ext.refl _⟩
      case round =>
        obtain ⟨k, a, rfl, rfl, hk, HA, hxi⟩ := hrel
        have hxw := hx.trans hxi
        have cyi := hxw.cell cy
        have hja : a ≤ k := by rw [HA.out]; exact cntB_le y l k
        by_cases hkn : k < n
        · have cz := hxw.cell (hY.out k hkn (by omega))
          have hs := hS.out k (by omega)
          rw [← HA.out] at hs
          generalize l[k]'(by omega) = z at *
          have wa : IntKind.i64.wrap ((a : Int) + 1) = (a : Int) + 1 := IntWalk.i64_in _ (by omega)
          have q0 : (0 : Int) ≤ k := by omega
          have q1 : (k : Int) < n := by omega
          have q2 : (0 : Int) ≤ j := by omega
          have q3 : (j : Int) < n := by omega
          by_cases hyz : y ≤ z
          · rw [if_pos hyz] at hs
            have HA2 := Lib.hid hs.symm
            have d1 := dec_t hyz
            clear hs HA hS hY HNO HNEW HOLD HM
            go_wp2_with fail
            go_quiet (fail)
            go_wp2_with fail
            go_roundw
            case rel => exact ⟨k + 1, a + 1, val_int (by omega), val_int (by omega), by omega, HA2, hxi.drewN _⟩
            case measure => simp [intOf]; omega
          · rw [if_neg hyz] at hs
            have HA2 := Lib.hid hs.symm
            have d1 := dec_f hyz
            clear hs HA hS hY HNO HNEW HOLD HM
            go_wp2_with fail
            go_quiet (fail)
            go_wp2_with fail
            go_roundw
            case rel => exact ⟨k + 1, a, rfl, val_int (by omega), by omega, HA2, hxi.drewN _⟩
            case measure => simp [intOf]; omega
        · have hke : k = n := by omega
          have hcnt : a = cntB y l := by rw [HA.out, List.take_of_length_le (by omega)]
          have HMJ : Hid (majB l y ↔ n < 2 * a) := Lib.hid (by unfold majB; rw [hlen, ← hcnt])
          have wa : IntKind.i64.wrap (2 * (a : Int)) = 2 * (a : Int) := IntWalk.i64_in _ (by omega)
          have q2 : (0 : Int) ≤ j := by omega
          have q3 : (j : Int) < n := by omega
          clear HA hS hY hcnt hkn
          by_cases hmj : n < 2 * a
          · have hM := HMJ.out.2 hmj
            have d1 := dec_t hmj
            have d1b := dec_t (show (n : Int) < 2 * (a : Int) by omega)
            rcases f with _ | _
            · have HR := Lib.hid (HNEW.out hM (fun e => by cases e))
              clear HNO HNEW HOLD HM HMJ hmj hM
              go_wp2_with fail
              go_roundw
              case rel => exact ⟨j + 1, y, true, rfl, rfl, val_int (by omega), by omega, HR, hxw⟩
              case measure => simp [intOf]; omega
            · by_cases hby : b < y
              · have HR := Lib.hid (HNEW.out hM (fun _ => hby))
                have d2 := dec_t hby
                clear HNO HNEW HOLD HM HMJ hmj hM hby
                go_wp2_with fail
                go_roundw
                case rel => exact ⟨j + 1, y, true, rfl, rfl, val_int (by omega), by omega, HR, hxw⟩
                case measure => simp [intOf]; omega
              · have HR := Lib.hid (HOLD.out rfl (by omega))
                have d2 := dec_f hby
                clear HNO HNEW HOLD HM HMJ hmj hM hby
                go_wp2_with fail
                go_roundw
                case rel => exact ⟨j + 1, b, true, rfl, rfl, val_int (by omega), by omega, HR, hxw⟩
                case measure => simp [intOf]; omega
          · have HR := Lib.hid (HNO.out (fun h => hmj (HMJ.out.1 h)))
            have d1 := dec_f hmj
            have d1b := dec_f (show ¬ (n : Int) < 2 * (a : Int) by omega)
            clear HNO HNEW HOLD HM HMJ hmj
            go_wp2_with fail
            go_roundw
            case rel => exact ⟨j + 1, b, f, rfl, rfl, val_int (by omega), by omega, HR, hxw⟩
            case measure => simp [intOf]; omega
    · have hje : j = n := by omega
      have hm : b = majorB l := by have := HM.out; rw [hje, ← hlen] at this; exact this.end_
      clear HM hlen hjn
      subst hje
      have HB := Lib.hid hm
      clear hm
      go_wp2
      go_ret
      exact ⟨by rw [← HB.out]; rfl, hx⟩
end Go.Proofs.Ytcdnjhcddbkciaa
