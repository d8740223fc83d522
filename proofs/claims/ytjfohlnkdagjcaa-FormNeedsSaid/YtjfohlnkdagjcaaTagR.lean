/- The walk of coracleref02.Take. -/
import Derived.Test.YtjfohlnkdagjcaaTagW
namespace Go.Proofs.Ytjfohlnkdagjcaa
open Go.RowKit

set_option maxRecDepth 100000 in
set_option maxHeartbeats 400000 in
theorem ref02_Take (A : Option Addr) (n c : Nat) (l : List UInt8) (w : World) (hb : Bs w A n l) (hn : n ≤ 1000000) (hnc : n ≤ c) :
    Calls Try.prog 23 #[.slice A n c] w fun e w' => e = tq (ttake l) ∧ Ext w w' := by
  have ct := ref01_Take A n c l w hb hn hnc
  clear hb
  have bad : ∀ e : Nat, (e = 2 ∨ e = 3) → vtake l = (0, 0, e) → ttake l = (0, 0, 0, e) := by
    intro e he h
    unfold ttake; rw [h]; rcases he with rfl | rfl <;> rfl
  rcases vtake_cases l with ⟨h, _⟩ | h | ⟨N, s, h, hN, h1, h2, h3⟩
  · rw [bad 2 (.inl rfl) h]
    simp only [h] at ct
    clear h bad
    go_enter Try.func23, Try.ntmps23
    go_wp2_with fail
    refine ct.mono ?_
    rintro e w1 ⟨rfl, hx⟩
    go_wp2
    exact bodyPost_ret (results_tmp4 rfl _ _ _) rfl ⟨rfl, hx⟩
  · rw [bad 3 (.inr rfl) h]
    simp only [h] at ct
    clear h bad
    go_enter Try.func23, Try.ntmps23
    go_wp2_with fail
    refine ct.mono ?_
    rintro e w1 ⟨rfl, hx⟩
    go_wp2
    exact bodyPost_ret (results_tmp4 rfl _ _ _) rfl ⟨rfl, hx⟩
  · simp only [h] at ct
    have hwr : IntKind.u64.wrap ((N : Int) / 8) = (N : Int) / 8 := (hN.div 8).wrap
    have hN63 := hN.lt
    by_cases hm : TagMay (N / 8) (N % 8)
    · have ht : ttake l = (N / 8, N % 8, s, 0) := by unfold ttake; rw [h]; simp [hm]
      rw [ht]
      clear ht h bad
      have hlt : (N : Int) < 8008 := by unfold TagMay at hm; omega
      clear hN63
      have hq : ∃ W : Nat, W = N % 8 ∧ TagMay (N / 8) W := ⟨_, rfl, hm⟩
      obtain ⟨W, hW, hm2⟩ := hq
      obtain ⟨M, hM⟩ : ∃ M, M = N / 8 := ⟨_, rfl⟩
      rw [← hM] at hm2
      have HW := Lib.hid hW; clear hW
      have HM := Lib.hid hM; clear hM
      go_enter Try.func23, Try.ntmps23
      go_wp2_with fail
      refine ct.mono ?_
      rintro e w1 ⟨rfl, hx⟩
      go_wp2_with fail
      rw [show ((N : Int) / 8) = (M : Int) by have := HM.out; omega, show ((N : Int) % 8) = (W : Int) by have := HW.out; omega]
      refine (ref02_Put_ok M W hm2 _).mono ?_
      rintro e w2 ⟨v, rfl, hown, hx2⟩
      clear hown
      go_wp2
      refine bodyPost_ret (results_tmp4 rfl _ _ _) rfl ?_
      exact ⟨tq_mk (q := (N / 8, N % 8, s, 0)) (by dsimp only; rw [HM.out]) (by dsimp only; rw [HW.out]) rfl rfl, hx.trans hx2⟩
    · have ht : ttake l = (0, 0, 0, 6) := by unfold ttake; rw [h]; simp [hm]
      rw [ht]
      clear ht h bad
      by_cases hlt : N < 8008
      · clear hN63
        have hno : ¬ (1 ≤ (N : Int) / 8 ∧ (N : Int) / 8 ≤ 1000 ∧ ((N : Int) % 8 = 0 ∨ (N : Int) % 8 = 2)) := by unfold TagMay at hm; omega
        have Hno := Lib.hid hno; clear hno hm
        go_enter Try.func23, Try.ntmps23
        go_wp2_with fail
        refine ct.mono ?_
        rintro e w1 ⟨rfl, hx⟩
        go_wp2_with fail
        refine (ref02_Put_no _ _ Hno.out _).mono ?_
        rintro e w2 ⟨rfl, rfl⟩
        go_wp2
        exact bodyPost_ret (results_tmp4 rfl _ _ _) rfl ⟨rfl, hx⟩
      · have hge : (8008 : Int) ≤ N := by omega
        clear hN63 hm
        go_enter Try.func23, Try.ntmps23
        go_wp2_with fail
        refine ct.mono ?_
        rintro e w1 ⟨rfl, hx⟩
        go_wp2
        exact bodyPost_ret (results_tmp4 rfl _ _ _) rfl ⟨rfl, hx⟩
end Go.Proofs.Ytjfohlnkdagjcaa
