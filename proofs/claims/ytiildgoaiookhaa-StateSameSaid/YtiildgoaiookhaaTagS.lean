/- The walks of tag.Skip and coracleref02.Skip. -/
import Derived.Test.YtiildgoaiookhaaTagR
import Derived.Test.YtiildgoaiookhaaCut
namespace Go.Proofs.Ytiildgoaiookhaa
open Go.RowKit

/-- what a field's skipping gives -/
def sq (q : Nat × Nat) : Ending := .returned (.tuple #[.int .i64 q.1, .int .i64 q.2])

set_option maxRecDepth 100000 in
set_option maxHeartbeats 400000 in
theorem tag_Skip1 (A : Option Addr) (n c s p q : Nat) (l : List UInt8) (w : World) (hb : Bs w A n l) (hn : n ≤ 1000000) (hs : s ≤ n) (hnc : n ≤ c)
    (hp : w.cell? ⟨p, 0, none⟩ = some (.slice A n c)) (hq : w.cell? ⟨q, 0, none⟩ = some (.int .i64 s)) (hf : w.frozen? ⟨q, 0, none⟩ = false) :
    Calls Try.prog 125 #[.pointer (some ⟨p, 0, none⟩), .pointer (some ⟨q, 0, none⟩)] w fun e w' =>
      e = .returned (.tuple #[.int .u64 (vtake (l.drop s)).1, .int .i64 (vtake (l.drop s)).2.2]) ∧ w.setCell ⟨q, 0, none⟩ (.int .i64 (s + (vtake (l.drop s)).2.1)) = w' := by
  obtain ⟨A', c', hc', hsl, hb'⟩ := cut_bytes (P := Try.prog) bytesT A hs hnc (s : Int) rfl
  have ct := varint_Take A' _ c' _ w (hb' _ _ hb) (by omega)
  have hle : (vtake (l.drop s)).2.1 ≤ 10 := by
    rcases vtake_cases (l.drop s) with ⟨h, _⟩ | h | ⟨N, k, h, hN, h1, h2, h3⟩ <;> rw [h] <;> simp
    exact h2
  generalize vtake (l.drop s) = v at *
  clear hb hb'
  obtain ⟨N, k, e⟩ := v
  have hle' : (k : Int) ≤ 10 := by simp at hle; omega
  clear hle
  have HC := Lib.hid ct; clear ct
  go_enter Try.func125, Try.ntmps125
  go_wp2_with fail
  refine HC.out.mono ?_
  rintro e w1 ⟨rfl, rfl⟩
  go_wp2
  go_ret2
  exact ⟨rfl, rfl⟩

theorem tskip_bad {l : List UInt8} {e : Nat} (he : e ≠ 0) (h : ttake l = (0, 0, 0, e)) : tskip l = (0, e) := by
  unfold tskip; rw [h]; simp [he]
theorem tskip_ok {l : List UInt8} {num wire s : Nat} (h : ttake l = (num, wire, s, 0)) : tskip l = 
    if (vtake (l.drop s)).2.2 ≠ 0 then (0, (vtake (l.drop s)).2.2)
    else if wire = 0 then (s + (vtake (l.drop s)).2.1, 0)
    else if 16384 < (vtake (l.drop s)).1 then (0, 4)
    else if l.length < s + (vtake (l.drop s)).2.1 + (vtake (l.drop s)).1 then (0, 2)
    else (s + (vtake (l.drop s)).2.1 + (vtake (l.drop s)).1, 0) := by
  unfold tskip; rw [h]; simp

set_option maxRecDepth 100000 in
set_option maxHeartbeats 800000 in
theorem tag_Skip (A : Option Addr) (n c : Nat) (l : List UInt8) (w : World) (hb : Bs w A n l) (hn : n ≤ 1000000) (hnc : n ≤ c) :
    Calls Try.prog 105 #[.slice A n c] w fun e w' => e = sq (tskip l) ∧ Ext w w' := by
  have hlen := hb.len
  have hb1 := hb.alloc (.cells #[.slice A n c] 52)
  have ct := tag_Take A n c l _ hb1 hn
  have bad : ∀ e : Nat, (e = 2 ∨ e = 3 ∨ e = 6) → ttake l = (0, 0, 0, e) → Calls Try.prog 105 #[.slice A n c] w fun e w' => e = sq (tskip l) ∧ Ext w w' := by
    intro e he h
    rw [tskip_bad (by omega) h]
    simp only [h, tq] at ct
    have he0 : ((e : Int) != 0) = true := bne_t (by omega)
    clear h hb hb1 hlen
    have HC := Lib.hid ct; clear ct
    go_enter Try.func105, Try.ntmps105
    go_wp2_with fail
    refine HC.out.mono ?_
    rintro e w1 ⟨rfl, rfl⟩
    go_wp2
    go_ret2
    exact ⟨rfl, ((Ext.refl w).alloc _).alloc _⟩
  rcases ttake_cases l with h | h | h | ⟨num, wire, s, h, hm, h1, h2, h3⟩
  · exact bad 2 (by omega) h
  · exact bad 3 (by omega) h
  · exact bad 6 (by omega) h
  · rw [tskip_ok h]
    simp only [h, tq] at ct
    clear h bad
    have hb2 := hb1.alloc (.cells #[.int .i64 s] 3)
    have cs := tag_Skip1 A n c s w.heap.size (w.heap.size + 1) l _ hb2 hn (by omega) hnc (by simp) (by simp) (by simp)
    have hl2 : (l.drop s).length = n - s := by rw [List.length_drop, hlen]
    clear hb hb1 hb2
    have HC := Lib.hid ct; clear ct
    rcases vtake_cases (l.drop s) with ⟨h, _⟩ | h | ⟨N, k, h, hN, g1, g2, g3⟩
    · rw [h]
      simp only [h] at cs
      have HS := Lib.hid cs; clear cs h
      go_enter Try.func105, Try.ntmps105
      go_wp2_with fail
      refine HC.out.mono ?_
      rintro e w1 ⟨rfl, rfl⟩
      go_wp2_with (go_at_call 125; refine HS.out.mono ?_; rintro e w1 ⟨rfl, rfl⟩)
      go_ret2
      exact ⟨rfl, ((Ext.refl w).alloc _).alloc _⟩
    · rw [h]
      simp only [h] at cs
      have HS := Lib.hid cs; clear cs h
      go_enter Try.func105, Try.ntmps105
      go_wp2_with fail
      refine HC.out.mono ?_
      rintro e w1 ⟨rfl, rfl⟩
      go_wp2_with (go_at_call 125; refine HS.out.mono ?_; rintro e w1 ⟨rfl, rfl⟩)
      go_ret2
      exact ⟨rfl, ((Ext.refl w).alloc _).alloc _⟩
    · rw [h]
      rw [hl2] at g3
      simp only [h] at cs
      have HS := Lib.hid cs; clear cs h
      clear hl2
      dsimp only
      rw [if_neg (by omega), hlen]
      rcases hm with ⟨m1, m2, hm⟩
      rcases hm with rfl | rfl
      · rw [if_pos rfl]
        go_enter Try.func105, Try.ntmps105
        go_wp2_with fail
        refine HC.out.mono ?_
        rintro e w1 ⟨rfl, rfl⟩
        go_wp2_with (go_at_call 125; refine HS.out.mono ?_; rintro e w1 ⟨rfl, rfl⟩)
        go_ret2
        exact ⟨rfl, ((Ext.refl w).alloc _).alloc _⟩
      · rw [if_neg (by omega)]
        by_cases q1 : 16384 < N
        · rw [if_pos q1]
          go_enter Try.func105, Try.ntmps105
          go_wp2_with fail
          refine HC.out.mono ?_
          rintro e w1 ⟨rfl, rfl⟩
          go_wp2_with (go_at_call 125; refine HS.out.mono ?_; rintro e w1 ⟨rfl, rfl⟩)
          go_ret2
          exact ⟨rfl, ((Ext.refl w).alloc _).alloc _⟩
        · rw [if_neg q1]
          by_cases q2 : n < s + k + N
          · rw [if_pos q2]
            have q2' : (n : Int) - (s + k) < N := by omega
            go_enter Try.func105, Try.ntmps105
            go_wp2_with fail
            refine HC.out.mono ?_
            rintro e w1 ⟨rfl, rfl⟩
            go_wp2_with (go_at_call 125; refine HS.out.mono ?_; rintro e w1 ⟨rfl, rfl⟩)
            go_ret2
            exact ⟨rfl, ((Ext.refl w).alloc _).alloc _⟩
          · rw [if_neg q2]
            have q2' : ¬ (n : Int) - (s + k) < N := by omega
            go_enter Try.func105, Try.ntmps105
            go_wp2_with fail
            refine HC.out.mono ?_
            rintro e w1 ⟨rfl, rfl⟩
            go_wp2_with (go_at_call 125; refine HS.out.mono ?_; rintro e w1 ⟨rfl, rfl⟩)
            go_ret2
            exact ⟨rfl, ((Ext.refl w).alloc _).alloc _⟩
end Go.Proofs.Ytiildgoaiookhaa
