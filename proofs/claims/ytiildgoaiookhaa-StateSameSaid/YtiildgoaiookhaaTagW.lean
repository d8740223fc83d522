/- The walks of layer 2: tags. -/
import Derived.Test.YtiildgoaiookhaaVarintT
import Derived.Test.YtiildgoaiookhaaVarintR
import Derived.Test.YtiildgoaiookhaaTag
namespace Go.Proofs.Ytiildgoaiookhaa
open Go.RowKit

theorem varint_Put_i (n : Nat) (x : Int) (hn : U64 n) (hx : x = n) (w : World) :
    Calls Try.prog 115 #[.int .u64 x] w fun e w' => ∃ v, e = .returned v ∧ w'.ownsRow w.heap.size 5 1 v (vput n).length ((vput n).map bv) ∧ Ext w w' := hx ▸ varint_Put n hn w
theorem ref01_Put_i (n : Nat) (x : Int) (hn : U64 n) (hx : x = n) (w : World) :
    Calls Try.prog 123 #[.int .u64 x] w fun e w' => ∃ v, e = .returned v ∧ w'.ownsRow w.heap.size 5 1 v (vput n).length ((vput n).map bv) ∧ Ext w w' := hx ▸ ref01_Put n hn w

set_option maxRecDepth 100000 in
set_option maxHeartbeats 400000 in
theorem tag_Put_no (num wire : Int) (hno : ¬ (1 ≤ num ∧ num ≤ 1000 ∧ (wire = 0 ∨ wire = 2))) (w : World) :
    Calls Try.prog 119 #[.int .i64 num, .int .i64 wire] w fun e w' => e = .returned (.tuple #[.slice none 0 0, .int .i64 1]) ∧ w = w' := by
  have h4 : num < 1 ∨ 1000 < num ∧ ¬ num < 1 ∨ (¬ num < 1 ∧ ¬ 1000 < num ∧ wire ≠ 0 ∧ wire ≠ 2) := by omega
  clear hno
  rcases h4 with h | ⟨h, h'⟩ | ⟨h1, h2, h3, h4⟩
  · go_enter Try.func119, Try.ntmps119
    go_wp2
    go_ret2
    exact ⟨rfl, rfl⟩
  · go_enter Try.func119, Try.ntmps119
    go_wp2
    go_ret2
    exact ⟨rfl, rfl⟩
  · have h3' := bne_t h3
    have h4' := bne_t h4
    clear h3 h4
    go_enter Try.func119, Try.ntmps119
    go_wp2
    go_ret2
    exact ⟨rfl, rfl⟩

set_option maxRecDepth 100000 in
set_option maxHeartbeats 400000 in
theorem tag_Put_ok (num wire : Nat) (hm : TagMay num wire) (w : World) :
    Calls Try.prog 119 #[.int .i64 num, .int .i64 wire] w fun e w' => ∃ v, e = .returned (.tuple #[v, .int .i64 0]) ∧ w'.ownsRow w.heap.size 5 1 v (vput (8 * num + wire)).length ((vput (8 * num + wire)).map bv) ∧ Ext w w' := by
  obtain ⟨h1, h2, h3⟩ := hm
  have hu : U64 (8 * num + wire) := by unfold U64; omega
  rcases h3 with rfl | rfl
  · go_enter Try.func119, Try.ntmps119
    go_wp2_with fail
    refine (varint_Put_i _ _ hu (by omega) _).mono ?_
    rintro e w1 ⟨v, rfl, hown, hx⟩
    go_wp2
    go_ret2
    exact ⟨v, rfl, hown, hx⟩
  · go_enter Try.func119, Try.ntmps119
    go_wp2_with fail
    refine (varint_Put_i _ _ hu (by omega) _).mono ?_
    rintro e w1 ⟨v, rfl, hown, hx⟩
    go_wp2
    go_ret2
    exact ⟨v, rfl, hown, hx⟩

set_option maxRecDepth 100000 in
set_option maxHeartbeats 400000 in
theorem ref02_Put_no (num wire : Int) (hno : ¬ (1 ≤ num ∧ num ≤ 1000 ∧ (wire = 0 ∨ wire = 2))) (w : World) :
    Calls Try.prog 121 #[.int .i64 num, .int .i64 wire] w fun e w' => e = .returned (.tuple #[.slice none 0 0, .int .i64 1]) ∧ w = w' := by
  have h4 : num < 1 ∨ 1000 < num ∧ ¬ num < 1 ∨ (¬ num < 1 ∧ ¬ 1000 < num ∧ wire ≠ 0 ∧ wire ≠ 2) := by omega
  clear hno
  rcases h4 with h | ⟨h, h'⟩ | ⟨h1, h2, h3, h4⟩
  · go_enter Try.func121, Try.ntmps121
    go_wp2
    go_ret2
    exact ⟨rfl, rfl⟩
  · go_enter Try.func121, Try.ntmps121
    go_wp2
    go_ret2
    exact ⟨rfl, rfl⟩
  · have h3' := bne_t h3
    have h4' := bne_t h4
    clear h3 h4
    go_enter Try.func121, Try.ntmps121
    go_wp2
    go_ret2
    exact ⟨rfl, rfl⟩

set_option maxRecDepth 100000 in
set_option maxHeartbeats 400000 in
theorem ref02_Put_ok (num wire : Nat) (hm : TagMay num wire) (w : World) :
    Calls Try.prog 121 #[.int .i64 num, .int .i64 wire] w fun e w' => ∃ v, e = .returned (.tuple #[v, .int .i64 0]) ∧ w'.ownsRow w.heap.size 5 1 v (vput (8 * num + wire)).length ((vput (8 * num + wire)).map bv) ∧ Ext w w' := by
  obtain ⟨h1, h2, h3⟩ := hm
  have hu : U64 (8 * num + wire) := by unfold U64; omega
  rcases h3 with rfl | rfl
  · go_enter Try.func121, Try.ntmps121
    go_wp2_with fail
    refine (ref01_Put_i _ _ hu (by omega) _).mono ?_
    rintro e w1 ⟨v, rfl, hown, hx⟩
    go_wp2
    go_ret2
    exact ⟨v, rfl, hown, hx⟩
  · go_enter Try.func121, Try.ntmps121
    go_wp2_with fail
    refine (ref01_Put_i _ _ hu (by omega) _).mono ?_
    rintro e w1 ⟨v, rfl, hown, hx⟩
    go_wp2
    go_ret2
    exact ⟨v, rfl, hown, hx⟩


theorem results_tmp4 {fn : Func} {t u v x : Tmp} (h : fn.results = #[.tmp t, .tmp u, .tmp v, .tmp x]) (tmps : Array Value) (P : Program) (w : World) :
    (results fn tmps).run P w = .ok (.tuple #[tmps.getD t undef, tmps.getD u undef, tmps.getD v undef, tmps.getD x undef]) w := by simp [results, h]
/-- what a tag's taking gives -/
def tq (q : Nat × Nat × Nat × Nat) : Ending := .returned (.tuple #[.int .i64 q.1, .int .i64 q.2.1, .int .i64 q.2.2.1, .int .i64 q.2.2.2])
theorem tq_mk {a b c d : Int} {q : Nat × Nat × Nat × Nat} (h1 : a = q.1) (h2 : b = q.2.1) (h3 : c = q.2.2.1) (h4 : d = q.2.2.2) : Ending.returned (.tuple #[.int .i64 a, .int .i64 b, .int .i64 c, .int .i64 d]) = tq q := by
  rw [h1, h2, h3, h4]; rfl

set_option maxRecDepth 100000 in
set_option maxHeartbeats 400000 in
theorem tag_Take (A : Option Addr) (n c : Nat) (l : List UInt8) (w : World) (hb : Bs w A n l) (hn : n ≤ 1000000) :
    Calls Try.prog 124 #[.slice A n c] w fun e w' => e = tq (ttake l) ∧ w = w' := by
  have ct := varint_Take A n c l w hb hn
  clear hb
  have bad : ∀ e : Nat, (e = 2 ∨ e = 3) → vtake l = (0, 0, e) → ttake l = (0, 0, 0, e) := by
    intro e he h
    unfold ttake; rw [h]; rcases he with rfl | rfl <;> rfl
  rcases vtake_cases l with ⟨h, _⟩ | h | ⟨N, s, h, hN, h1, h2, h3⟩
  · rw [bad 2 (.inl rfl) h]
    simp only [h] at ct
    clear h bad
    go_enter Try.func124, Try.ntmps124
    go_wp2_with fail
    refine ct.mono ?_
    rintro e w1 ⟨rfl, rfl⟩
    go_wp2
    exact bodyPost_ret (results_tmp4 rfl _ _ _) rfl ⟨rfl, rfl⟩
  · rw [bad 3 (.inr rfl) h]
    simp only [h] at ct
    clear h bad
    go_enter Try.func124, Try.ntmps124
    go_wp2_with fail
    refine ct.mono ?_
    rintro e w1 ⟨rfl, rfl⟩
    go_wp2
    exact bodyPost_ret (results_tmp4 rfl _ _ _) rfl ⟨rfl, rfl⟩
  · simp only [h] at ct
    have hwr : IntKind.u64.wrap ((N : Int) / 8) = (N : Int) / 8 := (hN.div 8).wrap
    by_cases hm : TagMay (N / 8) (N % 8)
    · have ht : ttake l = (N / 8, N % 8, s, 0) := by unfold ttake; rw [h]; simp [hm]
      rw [ht]
      clear ht h bad
      obtain ⟨h4, h5, h6⟩ := hm
      rcases h6 with h6 | h6
      · have g : ((N : Int) % 8 != 0) = false := bne_f (by omega)
        go_enter Try.func124, Try.ntmps124
        go_wp2_with fail
        refine ct.mono ?_
        rintro e w1 ⟨rfl, rfl⟩
        go_wp2
        refine bodyPost_ret (results_tmp4 rfl _ _ _) rfl ?_
        exact ⟨tq_mk (q := (N / 8, N % 8, s, 0)) (by dsimp only; omega) (by dsimp only; omega) rfl rfl, rfl⟩
      · have g : ((N : Int) % 8 != 0) = true := bne_t (by omega)
        have g' : ((N : Int) % 8 != 2) = false := bne_f (by omega)
        clear h6
        go_enter Try.func124, Try.ntmps124
        go_wp2_with fail
        refine ct.mono ?_
        rintro e w1 ⟨rfl, rfl⟩
        go_wp2
        refine bodyPost_ret (results_tmp4 rfl _ _ _) rfl ?_
        exact ⟨tq_mk (q := (N / 8, N % 8, s, 0)) (by dsimp only; omega) (by dsimp only; omega) rfl rfl, rfl⟩
    · have ht : ttake l = (0, 0, 0, 6) := by unfold ttake; rw [h]; simp [hm]
      rw [ht]
      clear ht h bad
      have h7 : (N : Int) / 8 < 1 ∨ (1 ≤ (N : Int) / 8 ∧ 1000 < (N : Int) / 8) ∨ (1 ≤ (N : Int) / 8 ∧ (N : Int) / 8 ≤ 1000 ∧ (N : Int) % 8 ≠ 0 ∧ (N : Int) % 8 ≠ 2) := by
        unfold TagMay at hm; omega
      clear hm
      rcases h7 with h7 | ⟨h7, h8⟩ | ⟨h7, h8, h9, h10⟩
      · go_enter Try.func124, Try.ntmps124
        go_wp2_with fail
        refine ct.mono ?_
        rintro e w1 ⟨rfl, rfl⟩
        go_wp2
        exact bodyPost_ret (results_tmp4 rfl _ _ _) rfl ⟨rfl, rfl⟩
      · go_enter Try.func124, Try.ntmps124
        go_wp2_with fail
        refine ct.mono ?_
        rintro e w1 ⟨rfl, rfl⟩
        go_wp2
        exact bodyPost_ret (results_tmp4 rfl _ _ _) rfl ⟨rfl, rfl⟩
      · have g := bne_t h9
        have g' := bne_t h10
        clear h9 h10
        go_enter Try.func124, Try.ntmps124
        go_wp2_with fail
        refine ct.mono ?_
        rintro e w1 ⟨rfl, rfl⟩
        go_wp2
        exact bodyPost_ret (results_tmp4 rfl _ _ _) rfl ⟨rfl, rfl⟩
end Go.Proofs.Ytiildgoaiookhaa
