/- The walk of coracleref02.Skip. -/
import Derived.Test.YtjfohlnkdagjcaaTagS
namespace Go.Proofs.Ytjfohlnkdagjcaa
open Go.RowKit

set_option maxRecDepth 100000 in
set_option maxHeartbeats 800000 in
theorem ref02_Skip (A : Option Addr) (n c : Nat) (l : List UInt8) (w : World) (hb : Bs w A n l) (hn : n ≤ 1000000) (hnc : n ≤ c) :
    Calls Try.prog 25 #[.slice A n c] w fun e w' => e = sq (tskip l) ∧ Ext w w' := by
  have hlen := hb.len
  have ct := ref02_Take A n c l _ hb hn hnc
  have bad : ∀ e : Nat, (e = 2 ∨ e = 3 ∨ e = 6) → ttake l = (0, 0, 0, e) → Calls Try.prog 25 #[.slice A n c] w fun e w' => e = sq (tskip l) ∧ Ext w w' := by
    intro e he h
    rw [tskip_bad (by omega) h]
    simp only [h, tq] at ct
    have he0 : ((e : Int) != 0) = true := bne_t (by omega)
    clear h hb hlen
    have HC := Lib.hid ct; clear ct
    go_enter Try.func25, Try.ntmps25
    go_wp2_with fail
    refine HC.out.mono ?_
    rintro e w1 ⟨rfl, hx⟩
    go_wp2
    go_ret2
    exact ⟨rfl, hx⟩
  rcases ttake_cases l with h | h | h | ⟨num, wire, s, h, hm, h1, h2, h3⟩
  · exact bad 2 (by omega) h
  · exact bad 3 (by omega) h
  · exact bad 6 (by omega) h
  · rw [tskip_ok h]
    simp only [h, tq] at ct
    clear h bad
    obtain ⟨A', c', hc', hsl, hb'⟩ := cut_bytes (P := Try.prog) bytesT A (lo := s) (by omega) hnc (s : Int) rfl
    have cs := fun w1 (hx : Ext w w1) => ref01_Take A' _ c' _ w1 (hb' _ _ (hb.ext hx)) (by omega) hc'
    have hl2 : (l.drop s).length = n - s := by rw [List.length_drop, hlen]
    clear hb hb'
    have HC := Lib.hid ct; clear ct
    rcases vtake_cases (l.drop s) with ⟨h, _⟩ | h | ⟨N, k, h, hN, g1, g2, g3⟩
    · rw [h]
      simp only [h] at cs
      have HS := Lib.hid cs; clear cs h
      go_enter Try.func25, Try.ntmps25
      go_wp2_with fail
      refine HC.out.mono ?_
      rintro e w1 ⟨rfl, hx⟩
      go_wp2_with fail
      refine (HS.out w1 hx).mono ?_
      rintro e w2 ⟨rfl, hx2⟩
      go_wp2
      go_ret2
      exact ⟨rfl, hx.trans hx2⟩
    · rw [h]
      simp only [h] at cs
      have HS := Lib.hid cs; clear cs h
      go_enter Try.func25, Try.ntmps25
      go_wp2_with fail
      refine HC.out.mono ?_
      rintro e w1 ⟨rfl, hx⟩
      go_wp2_with fail
      refine (HS.out w1 hx).mono ?_
      rintro e w2 ⟨rfl, hx2⟩
      go_wp2
      go_ret2
      exact ⟨rfl, hx.trans hx2⟩
    · rw [h]
      rw [hl2] at g3
      simp only [h] at cs
      have HS := Lib.hid cs; clear cs h
      clear hl2
      dsimp only
      rw [if_neg (by omega), hlen]
      clear hlen
      rcases hm with ⟨m1, m2, hm⟩
      rcases hm with rfl | rfl
      · rw [if_pos rfl]
        go_enter Try.func25, Try.ntmps25
        go_wp2_with fail
        refine HC.out.mono ?_
        rintro e w1 ⟨rfl, hx⟩
        go_wp2_with fail
        refine (HS.out w1 hx).mono ?_
        rintro e w2 ⟨rfl, hx2⟩
        go_wp2
        go_ret2
        exact ⟨rfl, hx.trans hx2⟩
      · rw [if_neg (by omega)]
        by_cases q1 : 16384 < N
        · rw [if_pos q1]
          go_enter Try.func25, Try.ntmps25
          go_wp2_with fail
          refine HC.out.mono ?_
          rintro e w1 ⟨rfl, hx⟩
          go_wp2_with fail
          refine (HS.out w1 hx).mono ?_
          rintro e w2 ⟨rfl, hx2⟩
          go_wp2
          go_ret2
          exact ⟨rfl, hx.trans hx2⟩
        · rw [if_neg q1]
          by_cases q2 : n < s + k + N
          · rw [if_pos q2]
            have q2' : (n : Int) - s - k < N := by omega
            go_enter Try.func25, Try.ntmps25
            go_wp2_with fail
            refine HC.out.mono ?_
            rintro e w1 ⟨rfl, hx⟩
            go_wp2_with fail
            refine (HS.out w1 hx).mono ?_
            rintro e w2 ⟨rfl, hx2⟩
            go_wp2
            go_ret2
            exact ⟨rfl, hx.trans hx2⟩
          · rw [if_neg q2]
            have q2' : ¬ (n : Int) - s - k < N := by omega
            go_enter Try.func25, Try.ntmps25
            go_wp2_with fail
            refine HC.out.mono ?_
            rintro e w1 ⟨rfl, hx⟩
            go_wp2_with fail
            refine (HS.out w1 hx).mono ?_
            rintro e w2 ⟨rfl, hx2⟩
            go_wp2
            go_ret2
            exact ⟨rfl, hx.trans hx2⟩
end Go.Proofs.Ytjfohlnkdagjcaa
