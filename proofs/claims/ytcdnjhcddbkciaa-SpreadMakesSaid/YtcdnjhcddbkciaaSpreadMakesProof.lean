/-
  For every input the law SpreadMakes returns true, and each argument reads afterwards as it read before. No condition.
-/
import Derived.Test.YtcdnjhcddbkciaaRows
import Derived.Test.YtcdnjhcddbkciaaSpG
import Derived.Test.YtcdnjhcddbkciaaOpen
import Derived.Test.YtcdnjhcddbkciaaOpen
import Derived.Test.YtcdnjhcddbkciaaOpen2
import Derived.Test.YtcdnjhcddbkciaaEntry
import Derived.Test.YtcdnjhcddbkciaaOpenU
namespace Go.Proofs.Ytcdnjhcddbkciaa.spreadMakes
open Go.ChangeShapes Go.WideShapes Go.ChangeAt Go.RowKit
set_option linter.unusedVariables false

theorem own : ownKnob Try.prog.godebug = none := by kernel_rfl
theorem laidOut : laidOutB Try.prog = true := by kernel_rfl

set_option maxRecDepth 100000 in
theorem lifted (os : Os) (started : os.Started) (H : Type) (enc : TypeId × Value → H) :
    ReturnsInHanded {} Try.checked os 17 .any (Rows.spreadMakesSpec.pre6 enc Try.prog Try.f17 Rows.spreadMakesRow.domain false) (Rows.spreadMakesSpec.post enc Try.prog Try.f17 false true false false) := by
  refine returnsInHanded_of_change (C := Try.checked) own started (by kernel_rfl) Try.func17
    (ChangeSpec.witness6 (enc := enc) (C := Try.checked) false ⟨#[], #[.agg #[.int .i64 0, .int .i64 0, .int .i64 0, .slice none 0 0], .int .u8 0, .agg #[.int .u8 0, .int .u8 0]], []⟩ 8 (by kernel_rfl) (by kernel_rfl) (by kernel_rfl) (by kernel_rfl)) ?_
  intro W base args ds gs before hval0 hW hcnd _
  have hval : ∀ (j : Nat) t v, Try.f17.params[j]? = some t → args[j]? = some v → Value.okWide Try.prog W .any base t v := hval0
  have hW' := hW
  obtain ⟨p, q, hA0, hV, rfl, hfz, hnd⟩ := hW
  have hA : DataW.TrodAll enc Try.prog W 0 (fun _ => true) true Try.f17.params.toList args.toList ds p := hA0
  rw [Try.params17] at hA hval
  obtain ⟨v0, vs0, d0, ds0, p0, q0, hargs, rfl, rfl, h0, r0⟩ := trodAll_cons hA
  obtain ⟨v1, vs1, d1, ds1, p1, q1, rfl, rfl, rfl, h1, r1⟩ := trodAll_cons r0
  obtain ⟨v2, vs2, d2, ds2, p2, q2, rfl, rfl, rfl, h2, r2⟩ := trodAll_cons r1
  obtain ⟨rfl, rfl, rfl⟩ := trodAll_nil r2
  obtain rfl : args = #[v0, v1, v2] := by cases args; simp_all
  obtain ⟨rfl, rfl⟩ := trodVars_none hV
  have k0 := h0
  have lt0 : ∀ x ∈ p0, x.block < W.heap.size := by obtain ⟨m, hm⟩ := k0; exact DataW.trod_lt m _ _ _ hm
  obtain ⟨S0, rfl, K0⟩ := open_stable Try.underlying45 rfl (by kernel_rfl) (by kernel_rfl) Try.underlying26 Try.underlying36 rfl (by kernel_rfl) (by kernel_rfl) Try.underlying3 Try.underlying34 Try.underlying5 (by kernel_rfl) (hval 0 45 v0 rfl rfl) h0
  obtain ⟨a1, rfl, rfl, rfl, w1⟩ := open_int Try.underlying5 (hval 1 5 v1 rfl rfl) h1
  have k2 := h2
  have lt2 : ∀ x ∈ p2, x.block < W.heap.size := by obtain ⟨m, hm⟩ := k2; exact DataW.trod_lt m _ _ _ hm
  obtain ⟨c0, c1, rfl, hc0, hc1⟩ := open_u8x2 Try.underlying75 Try.underlying5 (by kernel_rfl) (by kernel_rfl) (hval 2 75 v2 rfl rfl) h2
  clear hA0 hval0
  refine (law_SpreadMakesI S0 a1 c0 c1 W (u8_of_wf w1).1 (u8_of_wf w1).2 K0 hc0 hc1).mono fun e W' ⟨he, bel⟩ => ?_
  subst he
  exact ⟨_, rfl, _, _, _, [], _, [], hW', trodAll_mk1 (shut_bool Try.underlying4 _), (trodAll_cons_mk (Below.trod laidOut (by kernel_rfl) (of_decide_eq_true (by kernel_rfl)) k0 bel lt0) (trodAll_cons_mk (shut_int Try.underlying5 w1) (trodAll_cons_mk (Below.trod laidOut (by kernel_rfl) (of_decide_eq_true (by kernel_rfl)) k2 bel lt2) trodAll_mk0))), rfl, bel.frame _, fun h => by cases h⟩

theorem over : Rows.spreadMakesRow.holds Try.pinned (OpenSpec.ofChange Rows.spreadMakesSpec) :=
  OpenClaim.holds_of_wide 17 Try.f17 rfl rfl rfl rfl rfl rfl rfl ⟨rfl, rfl, rfl, rfl, rfl⟩ rfl rfl rfl rfl rfl (by kernel_rfl) Try.func17 (by kernel_rfl)
    (of_decide_eq_true (by kernel_rfl)) (by unfold Func.isWrapper; first | (rw [if_pos (by decide +kernel)]; kernel_rfl) | (rw [if_neg (by decide +kernel)]; exact ⟨rfl, rfl⟩))
    (fun os started H enc _ => lifted os started H enc)

end Go.Proofs.Ytcdnjhcddbkciaa.spreadMakes

namespace Go.Proofs.Ytcdnjhcddbkciaa
theorem spreadMakes_holds : Rows.SpreadMakesSaid := spreadMakes.over
#print axioms spreadMakes_holds
end Go.Proofs.Ytcdnjhcddbkciaa
