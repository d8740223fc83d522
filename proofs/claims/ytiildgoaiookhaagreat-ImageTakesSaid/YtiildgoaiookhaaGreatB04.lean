/- Words and walks that the last text of this claim stands on: StA. No condition. -/
import Derived.Test.YtiildgoaiookhaaGreatProg
import Derived.Test.YtiildgoaiookhaaGreatB03
/- The small functions of a catalogue: within, keys, Clone. -/
namespace Go.Proofs.YtiildgoaiookhaaGreat
open Go.RowKit

theorem catT : CatT Tryz.prog 29 25 63 61 34 3 26 65 27 70 59 4 9 where
  s := ⟨_, Tryz.underlying29, rfl, by kernel_rfl, by kernel_rfl⟩
  s1 := Tryz.underlying25
  f1 := ⟨_, _, _, Tryz.underlying63, rfl, rfl, rfl, rfl, rfl, rfl⟩
  c1 := by kernel_rfl
  r1 := ⟨_, _, Tryz.underlying61, rfl, rfl, rfl, rfl⟩
  cr := by kernel_rfl
  ce := by kernel_rfl
  ci := by kernel_rfl
  ue := Tryz.underlying34
  ui := Tryz.underlying3
  s2 := Tryz.underlying26
  f2 := ⟨_, Tryz.underlying65, rfl, by kernel_rfl, by kernel_rfl⟩
  s3 := Tryz.underlying27
  f3 := ⟨_, Tryz.underlying70, rfl, by kernel_rfl, by kernel_rfl⟩
  sc := Tryz.underlying59
  ub := Tryz.underlying4
  ug := Tryz.underlying9

theorem sessT : SliceT Tryz.prog 25 63 4 32 := SliceT.mk' (z := .agg #[.int .i64 0, .int .i64 0, .int .i64 0, .int .i64 0]) Tryz.underlying25 (by kernel_rfl) rfl
theorem opensT : SliceT Tryz.prog 26 65 2 16 := SliceT.mk' (z := .agg #[.int .i64 0, .int .i64 0]) Tryz.underlying26 (by kernel_rfl) rfl
theorem snapsT : SliceT Tryz.prog 27 70 5 64 := SliceT.mk' (z := .agg #[.int .i64 0, .int .i64 0, .slice none 0 0, .bool false, .string ⟨#[]⟩]) Tryz.underlying27 (by kernel_rfl) rfl
theorem intsT : SliceT Tryz.prog 59 3 1 8 := SliceT.mk' (z := .int .i64 0) Tryz.underlying59 (by kernel_rfl) rfl

/-- is a number within two others -/
def inI (n lo hi : Int) : Bool := decide (lo ≤ n) && decide (n ≤ hi)
theorem inI_t {n lo hi : Int} (h1 : lo ≤ n) (h2 : n ≤ hi) : inI n lo hi = true := by unfold inI; simp [h1, h2]
theorem inI_f {n lo hi : Int} (h : n < lo ∨ hi < n) : inI n lo hi = false := by
  unfold inI
  rcases h with h | h
  · rw [dec_f (show ¬ lo ≤ n by omega)]; rfl
  · rw [dec_f (show ¬ n ≤ hi by omega), Bool.and_false]
theorem inI_iff {n lo hi : Int} : inI n lo hi = true ↔ lo ≤ n ∧ n ≤ hi := by unfold inI; simp
set_option maxRecDepth 100000 in
theorem st_within (n lo hi : Int) (b : Bool) (hb : inI n lo hi = b) (w : World) : Calls Tryz.prog 59 #[.int .i64 n, .int .i64 lo, .int .i64 hi] w fun e w' => e = .returned (.bool b) ∧ w = w' := by
  by_cases h1 : lo ≤ n
  · by_cases h2 : n ≤ hi
    · rw [inI_t h1 h2] at hb; subst hb
      go_enter Tryz.func59, Tryz.ntmps59
      go_wp2
      go_ret
      exact ⟨rfl, rfl⟩
    · rw [inI_f (.inr (by omega))] at hb; subst hb
      have j0 : decide (n ≤ hi) = false := dec_f h2
      go_enter Tryz.func59, Tryz.ntmps59
      go_wp2
      go_ret
      exact ⟨rfl, rfl⟩
  · rw [inI_f (.inl (by omega))] at hb; subst hb
    have j0 : decide (lo ≤ n) = false := dec_f h1
    go_enter Tryz.func59, Tryz.ntmps59
    go_wp2
    go_ret
    exact ⟨rfl, rfl⟩
set_option maxRecDepth 100000 in
theorem ref07_in (n lo hi : Int) (b : Bool) (hb : inI n lo hi = b) (w : World) : Calls Tryz.prog 86 #[.int .i64 n, .int .i64 lo, .int .i64 hi] w fun e w' => e = .returned (.bool b) ∧ w = w' := by
  by_cases h1 : lo ≤ n
  · by_cases h2 : n ≤ hi
    · rw [inI_t h1 h2] at hb; subst hb
      go_enter Tryz.func86, Tryz.ntmps86
      go_wp2
      go_ret
      exact ⟨rfl, rfl⟩
    · rw [inI_f (.inr (by omega))] at hb; subst hb
      have j0 : decide (n ≤ hi) = false := dec_f h2
      go_enter Tryz.func86, Tryz.ntmps86
      go_wp2
      go_ret
      exact ⟨rfl, rfl⟩
  · rw [inI_f (.inl (by omega))] at hb; subst hb
    have j0 : decide (lo ≤ n) = false := dec_f h1
    go_enter Tryz.func86, Tryz.ntmps86
    go_wp2
    go_ret
    exact ⟨rfl, rfl⟩
set_option maxRecDepth 100000 in
theorem st_clientOf (x : CV) (w : World) : Calls Tryz.prog 61 #[.agg x.cells.toArray] w fun e w' => e = .returned (.int .i64 x.client) ∧ Ext w w' := by
  obtain ⟨a, b, c, d⟩ := x
  unfold CV.cells
  dsimp only
  go_enter Tryz.func61, Tryz.ntmps61
  go_wp2
  go_ret
  exact ⟨rfl, (Ext.refl w).alloc _⟩
set_option maxRecDepth 100000 in
theorem st_setOf (x : OV) (w : World) : Calls Tryz.prog 65 #[.agg x.cells.toArray] w fun e w' => e = .returned (.int .i64 x.set) ∧ Ext w w' := by
  obtain ⟨a, b⟩ := x
  unfold OV.cells
  dsimp only
  go_enter Tryz.func65, Tryz.ntmps65
  go_wp2
  go_ret
  exact ⟨rfl, (Ext.refl w).alloc _⟩
set_option maxRecDepth 100000 in
theorem st_idOf (x : NV) (w : World) : Calls Tryz.prog 91 #[.agg x.cells.toArray] w fun e w' => e = .returned (.int .i64 x.id) ∧ Ext w w' := by
  obtain ⟨a, b, A, l, cp, ch, hd, tg⟩ := x
  unfold NV.cells
  dsimp only
  go_enter Tryz.func91, Tryz.ntmps91
  go_wp2
  go_ret
  exact ⟨rfl, (Ext.refl w).alloc _⟩
/-- may a client's numbers be -/
def sesB (x : CV) : Bool := inI x.seq 0 1048576 && (inI x.code 0 99 && inI x.n 0 1048576)
def opnB (x : OV) : Bool := inI x.client 1 8
set_option maxRecDepth 100000 in
set_option maxHeartbeats 800000 in
theorem st_May1 (x : CV) (hx : I64 x.code) (b : Bool) (hb : sesB x = b) (w : World) : Calls Tryz.prog 63 #[.agg x.cells.toArray] w fun e w' => e = .returned (.bool b) ∧ Ext w w' := by
  obtain ⟨a, sq, cd, d⟩ := x
  unfold CV.cells
  unfold sesB at hb
  dsimp only at hb hx ⊢
  have hwr := hx.wrap
  have H1 := Lib.hid (fun b hb w => st_within sq 0 1048576 b hb w)
  have H2 := Lib.hid (fun b hb w => st_within cd 0 99 b hb w)
  have H3 := Lib.hid (fun b hb w => st_within d 0 1048576 b hb w)
  generalize inI sq 0 1048576 = b1 at *
  generalize inI cd 0 99 = b2 at *
  generalize inI d 0 1048576 = b3 at *
  rcases b1 with _ | _ <;> rcases b2 with _ | _ <;> rcases b3 with _ | _ <;> simp at hb <;> subst hb
  all_goals
    go_enter Tryz.func63, Tryz.ntmps63
    go_wp2_with (first | (go_at_call 59; ((with_reducible refine (H1.out _ rfl _).mono ?_); rintro e w1 ⟨rfl, rfl⟩)) | (go_at_call 59; ((with_reducible refine (H2.out _ rfl _).mono ?_); rintro e w1 ⟨rfl, rfl⟩)) | (go_at_call 59; ((with_reducible refine (H3.out _ rfl _).mono ?_); rintro e w1 ⟨rfl, rfl⟩)))
    go_ret
    exact ⟨rfl, (Ext.refl w).alloc _⟩
set_option maxRecDepth 100000 in
theorem st_May2 (x : OV) (b : Bool) (hb : opnB x = b) (w : World) : Calls Tryz.prog 67 #[.agg x.cells.toArray] w fun e w' => e = .returned (.bool b) ∧ Ext w w' := by
  obtain ⟨a, cl⟩ := x
  unfold OV.cells
  unfold opnB at hb
  dsimp only at hb ⊢
  have H1 := Lib.hid (fun w => st_within cl 1 8 b hb w)
  clear hb
  go_enter Tryz.func67, Tryz.ntmps67
  go_wp2_with (go_at_call 59; refine (H1.out _).mono ?_; rintro e w1 ⟨rfl, rfl⟩)
  go_ret
  exact ⟨rfl, (Ext.refl w).alloc _⟩
end Go.Proofs.YtiildgoaiookhaaGreat
