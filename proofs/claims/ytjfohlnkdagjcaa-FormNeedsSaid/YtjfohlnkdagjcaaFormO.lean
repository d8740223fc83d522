/- The walk of the law FormOwn. -/
import Derived.Test.YtjfohlnkdagjcaaFormG
import Derived.Test.YtjfohlnkdagjcaaRec
namespace Go.Proofs.Ytjfohlnkdagjcaa
open Go.RowKit

theorem top_len {k v : Nat} (hk : k < 16) (h1 : 1 ≤ v) (h3 : v ≤ 3) : topL (specL (k : Nat) (v : Nat)) = (specL (k : Nat) (v : Nat)).length := by
  obtain ⟨f1, _⟩ := grow_at hk h1 h3
  exact (grow_get f1 (specL_len _ _)).1

set_option maxRecDepth 100000 in
set_option maxHeartbeats 1600000 in
theorem law_FormOwn (a b : Int) (w : World) (ha0 : 0 ≤ a) (ha1 : a < 256) (hb0 : 0 ≤ b) (hb1 : b < 256) :
    Calls Try.prog 14 #[.int .u8 a, .int .u8 b] w fun e w' => e = .returned (.bool true) ∧ Ext w w' := by
  obtain ⟨a, rfl⟩ := Int.eq_ofNat_of_zero_le ha0
  obtain ⟨b, rfl⟩ := Int.eq_ofNat_of_zero_le hb0
  have hm7 : a % 7 < 7 := Nat.mod_lt _ (by omega)
  have hm3 : b % 3 < 3 := Nat.mod_lt _ (by omega)
  have htop := top_len (k := 1 + a % 7) (v := 1 + b % 3) (by omega) (by omega) (by omega)
  have hN10 := specL_len (1 + a % 7 : Nat) (1 + b % 3 : Nat)
  have HS := fun (w : World) => forms_Specs (1 + a % 7 : Nat) (1 + b % 3 : Nat) w
  have HT := fun (w : World) => forms_Top (1 + a % 7 : Nat) (1 + b % 3 : Nat) w
  rw [htop] at HT
  rw [show ((1 + a % 7 : Nat) : Int) = 1 + (a : Int) % 7 by omega, show ((1 + b % 3 : Nat) : Int) = 1 + (b : Int) % 3 by omega] at HS HT hN10
  generalize specL (1 + (a : Int) % 7) (1 + (b : Int) % 3) = L at *
  have HS' := Lib.hid HS
  have HT' := Lib.hid HT
  clear HS HT htop hm7 hm3
  go_enter Try.func14, Try.ntmps14
  go_wp2_with fail
  refine (law04_shown _).mono ?_
  rintro e w1 ⟨rfl, x1⟩
  go_wp2_with fail
  refine (HS'.out _).mono ?_
  rintro e w2 ⟨V, rfl, hown, x2⟩
  have hrd := hown
  obtain ⟨A, c, rfl, _⟩ := own_form hown
  have hL := Rd.of_own hown
  have hx2 := x1.trans x2
  have hl := hx2.size
  generalize hN : L.length = N at *
  have HN := Lib.hid hN; clear hN
  have hB : N = 0 ∨ ∃ g cs, A = some ⟨g, 0, none⟩ ∧ Blk w2 g 60 cs ∧ N * 5 ≤ cs.length ∧ w.heap.size ≤ g ∧ g < w2.heap.size := by
    rcases hown.2 with ⟨_, h0⟩ | ⟨g, cap, cur, hv, hg, hb, hnc, _, hcap, _⟩
    · left; omega
    · right
      injection hv with hv
      refine ⟨g, cur.toList, hv, by unfold Blk; simpa using hb, ?_, Nat.le_trans x1.size hg, (Array.getElem?_eq_some_iff.1 hb).1⟩
      have hcap' : cur.size = cap * 5 := by simpa using hcap
      rw [Array.length_toList, hcap']
      exact Nat.mul_le_mul_right _ hnc
  clear hown hrd x1 x2
  have hemp := own_empty w2 60 5
  go_wp2_with (at_builtin; refine wpList_app specT (by omega) _ rfl rfl rfl hemp rfl (Rd.alloc hL _) (specOf_cells _) (by unfold maxLen; omega) (by omega) (by simp) ?_; intro v3 w3 hown3 hg3 hat3; have x3 : Ext w2 w3 := Below.app ((Ext.refl w2).alloc _) hg3 (by simp) hemp (Nat.le_refl _); simp only [List.nil_append, Nat.zero_add] at hown3; clear hg3 hat3)
  have hx3 := hx2.trans x3
  have hB3 : N = 0 ∨ ∃ g cs, A = some ⟨g, 0, none⟩ ∧ Blk w3 g 60 cs ∧ N * 5 ≤ cs.length ∧ w.heap.size ≤ g ∧ g < w2.heap.size := by
    rcases hB with h | ⟨g, cs, h1, h2, h3⟩
    · exact .inl h
    · exact .inr ⟨g, cs, h1, h2.ext x3, h3⟩
  obtain ⟨A3, c3, rfl, _⟩ := own_form hown3
  clear hB hemp hL
  go_loopw [10] (fun i wr => ∃ (j : Nat), i = .int .i64 j ∧ j ≤ N ∧ (N = 0 ∨ ∃ g cs, A = some ⟨g, 0, none⟩ ∧ Blk wr g 60 cs ∧ N * 5 ≤ cs.length ∧ w.heap.size ≤ g ∧ g < w2.heap.size) ∧ wr.ownsRow w2.heap.size 60 5 (.slice A3 N c3) N (specOf L) ∧ Ext w wr) (fun i _ => N - (intOf i).toNat)
  case atStart => exact ⟨0, rfl, by omega, hB3, hown3, hx3⟩
  case round =>
    obtain ⟨j, rfl, hj, hB, hw, hx⟩ := hrel
    clear hB3 hown3
    by_cases hjn : j < N
    · rcases hB with h | ⟨g, cs, rfl, hb, hcs, hg, hg2⟩
      · exact absurd hjn (by omega)
      have ex : ∀ k, k < 5 → ∃ u, wr.cell? ⟨g, j * 5 + k, none⟩ = some u := by
        intro k hk
        refine ⟨cs[j * 5 + k]'(by omega), ?_⟩
        rw [hb.cell]
        exact List.getElem?_eq_getElem _
      obtain ⟨u0, q0⟩ := ex 0 (by omega)
      obtain ⟨u1, q1⟩ := ex 1 (by omega)
      obtain ⟨u2, q2⟩ := ex 2 (by omega)
      obtain ⟨u3, q3⟩ := ex 3 (by omega)
      obtain ⟨u4, q4⟩ := ex 4 (by omega)
      have f0 := hb.frozen (j * 5 + 0)
      have f1 := hb.frozen (j * 5 + 1)
      have f2 := hb.frozen (j * 5 + 2)
      have f3 := hb.frozen (j * 5 + 3)
      have f4 := hb.frozen (j * 5 + 4)
      simp only [Nat.add_zero] at q0 f0
      clear ex
      have hj0 : (0 : Int) ≤ j := by omega
      have hj1 : (j : Int) < N := by omega
      go_wp2
      go_roundw
      case rel => exact ⟨j + 1, val_int (by omega), by omega, .inr ⟨g, _, rfl, ((((hb.set_ _ _).set_ _ _).set_ _ _).set_ _ _).set_ _ _, by simpa using hcs, hg, hg2⟩, own_set (own_set (own_set (own_set (own_set hw hg2 _) hg2 _) hg2 _) hg2 _) hg2 _, ((((hx.setCell hg _).setCell hg _).setCell hg _).setCell hg _).setCell hg _⟩
      case measure => simp [intOf]; omega
    · obtain rfl : N = j := by omega
      have hW := Ss.of_own hw
      clear hw hB
      go_wp2_with fail
      refine (HS'.out _).mono ?_
      rintro e w5 ⟨V5, rfl, hown5, x5⟩
      obtain ⟨A5, c5, rfl, _⟩ := own_form hown5
      have h5 := Ss.of_own hown5
      have hW5 := hW.ext x5
      have hx5 := hx.trans x5
      clear hown5 x5 hW
      go_wp2_with fail
      refine (ref04_Same _ _ _ _ _ _ _ h5 hW5 (by omega)).mono ?_
      rintro e w6 ⟨rfl, x6⟩
      go_wp2_with fail
      refine (HT'.out _).mono ?_
      rintro e w7 ⟨rfl, x7⟩
      have hx7 := (hx5.trans x6).trans x7
      clear h5 hW5 x6 x7 hx5
      go_wp2
      go_ret
      exact ⟨rfl, hx7⟩
end Go.Proofs.Ytjfohlnkdagjcaa
