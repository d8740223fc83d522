/- Words and walks that the last text of this claim stands on: StA. No condition. -/
import Derived.Test.YtiildgoaiookhaaProg
import Derived.Test.YtiildgoaiookhaaB03
/- The small functions of a catalogue: within, keys, Clone. -/
namespace Go.Proofs.Ytiildgoaiookhaa
open Go.RowKit

theorem catT : CatT Try.prog 26 22 45 43 29 3 23 47 24 33 31 4 9 where
  s := ⟨_, Try.underlying26, rfl, by kernel_rfl, by kernel_rfl⟩
  s1 := Try.underlying22
  f1 := ⟨_, _, _, Try.underlying45, rfl, rfl, rfl, rfl, rfl, rfl⟩
  c1 := by kernel_rfl
  r1 := ⟨_, _, Try.underlying43, rfl, rfl, rfl, rfl⟩
  cr := by kernel_rfl
  ce := by kernel_rfl
  ci := by kernel_rfl
  ue := Try.underlying29
  ui := Try.underlying3
  s2 := Try.underlying23
  f2 := ⟨_, Try.underlying47, rfl, by kernel_rfl, by kernel_rfl⟩
  s3 := Try.underlying24
  f3 := ⟨_, Try.underlying33, rfl, by kernel_rfl, by kernel_rfl⟩
  sc := Try.underlying31
  ub := Try.underlying4
  ug := Try.underlying9

theorem sessT : SliceT Try.prog 22 45 4 32 := SliceT.mk' (z := .agg #[.int .i64 0, .int .i64 0, .int .i64 0, .int .i64 0]) Try.underlying22 (by kernel_rfl) rfl
theorem opensT : SliceT Try.prog 23 47 2 16 := SliceT.mk' (z := .agg #[.int .i64 0, .int .i64 0]) Try.underlying23 (by kernel_rfl) rfl
theorem snapsT : SliceT Try.prog 24 33 5 64 := SliceT.mk' (z := .agg #[.int .i64 0, .int .i64 0, .slice none 0 0, .bool false, .string ⟨#[]⟩]) Try.underlying24 (by kernel_rfl) rfl
theorem intsT : SliceT Try.prog 31 3 1 8 := SliceT.mk' (z := .int .i64 0) Try.underlying31 (by kernel_rfl) rfl

/-- is a number within two others -/
def inI (n lo hi : Int) : Bool := decide (lo ≤ n) && decide (n ≤ hi)
theorem inI_t {n lo hi : Int} (h1 : lo ≤ n) (h2 : n ≤ hi) : inI n lo hi = true := by unfold inI; simp [h1, h2]
theorem inI_f {n lo hi : Int} (h : n < lo ∨ hi < n) : inI n lo hi = false := by
  unfold inI
  rcases h with h | h
  · rw [dec_f (show ¬ lo ≤ n by omega)]; rfl
  · rw [dec_f (show ¬ n ≤ hi by omega), Bool.and_false]
theorem inI_iff {n lo hi : Int} : inI n lo hi = true ↔ lo ≤ n ∧ n ≤ hi := by unfold inI; simp
set_option maxRecDepth 100000 in
theorem st_within (n lo hi : Int) (b : Bool) (hb : inI n lo hi = b) (w : World) : Calls Try.prog 42 #[.int .i64 n, .int .i64 lo, .int .i64 hi] w fun e w' => e = .returned (.bool b) ∧ w = w' := by
  by_cases h1 : lo ≤ n
  · by_cases h2 : n ≤ hi
    · rw [inI_t h1 h2] at hb; subst hb
      go_enter Try.func42, Try.ntmps42
      go_wp2
      go_ret
      exact ⟨rfl, rfl⟩
    · rw [inI_f (.inr (by omega))] at hb; subst hb
      have j0 : decide (n ≤ hi) = false := dec_f h2
      go_enter Try.func42, Try.ntmps42
      go_wp2
      go_ret
      exact ⟨rfl, rfl⟩
  · rw [inI_f (.inl (by omega))] at hb; subst hb
    have j0 : decide (lo ≤ n) = false := dec_f h1
    go_enter Try.func42, Try.ntmps42
    go_wp2
    go_ret
    exact ⟨rfl, rfl⟩
set_option maxRecDepth 100000 in
theorem ref07_in (n lo hi : Int) (b : Bool) (hb : inI n lo hi = b) (w : World) : Calls Try.prog 56 #[.int .i64 n, .int .i64 lo, .int .i64 hi] w fun e w' => e = .returned (.bool b) ∧ w = w' := by
  by_cases h1 : lo ≤ n
  · by_cases h2 : n ≤ hi
    · rw [inI_t h1 h2] at hb; subst hb
      go_enter Try.func56, Try.ntmps56
      go_wp2
      go_ret
      exact ⟨rfl, rfl⟩
    · rw [inI_f (.inr (by omega))] at hb; subst hb
      have j0 : decide (n ≤ hi) = false := dec_f h2
      go_enter Try.func56, Try.ntmps56
      go_wp2
      go_ret
      exact ⟨rfl, rfl⟩
  · rw [inI_f (.inl (by omega))] at hb; subst hb
    have j0 : decide (lo ≤ n) = false := dec_f h1
    go_enter Try.func56, Try.ntmps56
    go_wp2
    go_ret
    exact ⟨rfl, rfl⟩
set_option maxRecDepth 100000 in
theorem st_clientOf (x : CV) (w : World) : Calls Try.prog 44 #[.agg x.cells.toArray] w fun e w' => e = .returned (.int .i64 x.client) ∧ Ext w w' := by
  obtain ⟨a, b, c, d⟩ := x
  unfold CV.cells
  dsimp only
  go_enter Try.func44, Try.ntmps44
  go_wp2
  go_ret
  exact ⟨rfl, (Ext.refl w).alloc _⟩
set_option maxRecDepth 100000 in
theorem st_setOf (x : OV) (w : World) : Calls Try.prog 48 #[.agg x.cells.toArray] w fun e w' => e = .returned (.int .i64 x.set) ∧ Ext w w' := by
  obtain ⟨a, b⟩ := x
  unfold OV.cells
  dsimp only
  go_enter Try.func48, Try.ntmps48
  go_wp2
  go_ret
  exact ⟨rfl, (Ext.refl w).alloc _⟩
set_option maxRecDepth 100000 in
theorem st_idOf (x : NV) (w : World) : Calls Try.prog 61 #[.agg x.cells.toArray] w fun e w' => e = .returned (.int .i64 x.id) ∧ Ext w w' := by
  obtain ⟨a, b, A, l, cp, ch, hd, tg⟩ := x
  unfold NV.cells
  dsimp only
  go_enter Try.func61, Try.ntmps61
  go_wp2
  go_ret
  exact ⟨rfl, (Ext.refl w).alloc _⟩
/-- may a client's numbers be -/
def sesB (x : CV) : Bool := inI x.seq 0 1048576 && (inI x.code 0 99 && inI x.n 0 1048576)
def opnB (x : OV) : Bool := inI x.client 1 8
set_option maxRecDepth 100000 in
set_option maxHeartbeats 800000 in
theorem st_May1 (x : CV) (hx : I64 x.code) (b : Bool) (hb : sesB x = b) (w : World) : Calls Try.prog 46 #[.agg x.cells.toArray] w fun e w' => e = .returned (.bool b) ∧ Ext w w' := by
  obtain ⟨a, sq, cd, d⟩ := x
  unfold CV.cells
  unfold sesB at hb
  dsimp only at hb hx ⊢
  have hwr := hx.wrap
  have H1 := Lib.hid (fun b hb w => st_within sq 0 1048576 b hb w)
  have H2 := Lib.hid (fun b hb w => st_within cd 0 99 b hb w)
  have H3 := Lib.hid (fun b hb w => st_within d 0 1048576 b hb w)
  generalize inI sq 0 1048576 = b1 at *
  generalize inI cd 0 99 = b2 at *
  generalize inI d 0 1048576 = b3 at *
  rcases b1 with _ | _ <;> rcases b2 with _ | _ <;> rcases b3 with _ | _ <;> simp at hb <;> subst hb
  all_goals
    go_enter Try.func46, Try.ntmps46
    go_wp2_with (first | (go_at_call 42; ((with_reducible refine (H1.out _ rfl _).mono ?_); rintro e w1 ⟨rfl, rfl⟩)) | (go_at_call 42; ((with_reducible refine (H2.out _ rfl _).mono ?_); rintro e w1 ⟨rfl, rfl⟩)) | (go_at_call 42; ((with_reducible refine (H3.out _ rfl _).mono ?_); rintro e w1 ⟨rfl, rfl⟩)))
    go_ret
    exact ⟨rfl, (Ext.refl w).alloc _⟩
set_option maxRecDepth 100000 in
theorem st_May2 (x : OV) (b : Bool) (hb : opnB x = b) (w : World) : Calls Try.prog 50 #[.agg x.cells.toArray] w fun e w' => e = .returned (.bool b) ∧ Ext w w' := by
  obtain ⟨a, cl⟩ := x
  unfold OV.cells
  unfold opnB at hb
  dsimp only at hb ⊢
  have H1 := Lib.hid (fun w => st_within cl 1 8 b hb w)
  clear hb
  go_enter Try.func50, Try.ntmps50
  go_wp2_with (go_at_call 42; refine (H1.out _).mono ?_; rintro e w1 ⟨rfl, rfl⟩)
  go_ret
  exact ⟨rfl, (Ext.refl w).alloc _⟩
end Go.Proofs.Ytiildgoaiookhaa
