/- Behind of logs. -/
import Derived.Test.YtcdnjhcddbkciaaLgD
namespace Go.Proofs.Ytcdnjhcddbkciaa
open Go.RowKit

/-- what stands behind an entry, so many at most -/
def behB (l : List EV) (b most : Int) : List EV := if b < 0 ∨ (l.length : Int) < b ∨ most < 1 then [] else (l.drop b.toNat).take most.toNat

set_option maxRecDepth 100000 in
set_option maxHeartbeats 1600000 in
theorem logs_Behind (A : Option Addr) (n c : Nat) (l : List EV) (b q : Int) (w : World) (h1 : Es w A n l) (hn : n ≤ 1000) (hnc : n ≤ c) :
    Calls Try.prog 22 #[.slice A n c, .int .i64 b, .int .i64 q] w fun e w' => ∃ v, e = .returned v ∧ w'.ownsRow w.heap.size 36 2 v (behB l b q).length (logOf (behB l b q)) ∧ Ext w w' := by
  have hl1 := h1.len
  by_cases c0 : b < 0
  · have e0 : behB l b q = [] := by unfold behB; rw [if_pos (Or.inl c0)]
    rw [e0]
    have t0 := dec_t c0
    clear e0 hl1 h1
    go_enter Try.func22, Try.ntmps22
    go_wp2
    go_ret
    exact ⟨_, rfl, World.ownsRow_nil _ _ _ _, Ext.refl w⟩
  have t0 := dec_f c0
  obtain ⟨k, rfl⟩ : ∃ k : Nat, b = k := ⟨b.toNat, by omega⟩
  by_cases c1 : (n : Int) < k
  · have e0 : behB l k q = [] := by unfold behB; rw [if_pos (Or.inr (Or.inl (by omega)))]
    rw [e0]
    have t1 := dec_t (show n < k by omega)
    clear e0 hl1 h1 c0
    go_enter Try.func22, Try.ntmps22
    go_wp2
    go_ret
    exact ⟨_, rfl, World.ownsRow_nil _ _ _ _, Ext.refl w⟩
  have t1 := dec_f (show ¬ n < k by omega)
  by_cases c2 : q < 1
  · have e0 : behB l k q = [] := by unfold behB; rw [if_pos (Or.inr (Or.inr c2))]
    rw [e0]
    have t2 := dec_t c2
    clear e0 hl1 h1 c0 c1
    go_enter Try.func22, Try.ntmps22
    go_wp2
    go_ret
    exact ⟨_, rfl, World.ownsRow_nil _ _ _ _, Ext.refl w⟩
  have t2 := dec_f c2
  obtain ⟨q, rfl⟩ : ∃ m : Nat, q = m := ⟨q.toNat, by omega⟩
  have hk : k ≤ n := by omega
  have e0 : behB l k q = (l.drop k).take q := by unfold behB; rw [if_neg (by omega)]; rfl
  rw [e0]
  obtain ⟨A1, c1', hc1, hsl, hts⟩ := cut_ents entsT A hk hnc (k : Int) rfl
  have h3 := hts _ _ h1
  have hl3 : (l.drop k).length = n - k := by rw [List.length_drop]; omega
  clear e0 h1 hts hl1 c0 c1 c2
  generalize l.drop k = hv at *
  by_cases hq : q ≤ n - k
  · have HC := Lib.hid (ents_Clone A1 q c1' (hv.take q) w (h3.upto hq) (by omega))
    have hle : (hv.take q).length = q := by rw [List.length_take]; omega
    rw [hle]
    have hmin : min (q : Int) ((n - k : Nat) : Int) = q := by omega
    have q2 : (q : Int) ≤ c1' := by omega
    have q3 : (0 : Int) ≤ q := by omega
    clear h3 hle
    go_enter Try.func22, Try.ntmps22
    go_wp2_with fail
    refine HC.out.mono ?_
    rintro e w1 ⟨v1, rfl, hown, x1⟩
    go_wp2
    go_ret
    exact ⟨_, rfl, hown, x1⟩
  · have HC := Lib.hid (ents_Clone A1 (n - k) c1' hv w h3 (by omega))
    have hle : hv.take q = hv := List.take_of_length_le (by omega)
    rw [hle, hl3]
    have hmin : min (q : Int) ((n - k : Nat) : Int) = ((n - k : Nat) : Int) := by omega
    have q2 : ((n - k : Nat) : Int) ≤ c1' := by omega
    have q3 : (0 : Int) ≤ ((n - k : Nat) : Int) := by omega
    clear h3 hle
    go_enter Try.func22, Try.ntmps22
    go_wp2_with fail
    refine HC.out.mono ?_
    rintro e w1 ⟨v1, rfl, hown, x1⟩
    go_wp2
    go_ret
    exact ⟨_, rfl, hown, x1⟩
end Go.Proofs.Ytcdnjhcddbkciaa
