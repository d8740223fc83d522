/- The walk of shown of layer 7's laws. -/
import Derived.Test.YtiildgoaiookhaaStN
import Derived.Test.YtiildgoaiookhaaStS
namespace Go.Proofs.Ytiildgoaiookhaa
open Go.RowKit

/-- an empty catalogue -/
def freshK : KV := ⟨1, 1, 0, 0, none, 0, 0, [], none, 0, 0, [], none, 0, 0, []⟩
theorem i64_small {n : Int} (h : -1000000 ≤ n ∧ n ≤ 1000000) : I64 n := ⟨by omega, by omega⟩
theorem freshK_ok (w : World) : freshK.Ok w :=
  ⟨i64_small (by simp [freshK]), i64_small (by simp [freshK]), i64_small (by simp [freshK]), i64_small (by simp [freshK]), Ts.nil_ _ _ (by omega), Nat.le_refl _, by decide, Ts.nil_ _ _ (by omega), Nat.le_refl _, by decide, Ts.nil_ _ _ (by omega), Nat.le_refl _, by decide⟩
theorem freshK_few : freshK.Few := ⟨by decide, by decide, by decide, by simp [freshK]⟩
set_option maxRecDepth 100000 in
theorem st_Fresh (w : World) : Calls Try.prog 18 #[] w fun e w' => e = .returned freshK.val ∧ Ext w w' := by
  unfold freshK KV.val
  dsimp only
  go_enter Try.func18, Try.ntmps18
  go_wp2
  refine bodyPost_ret (v := .agg #[.int .i64 1, .int .i64 1, .int .i64 0, .int .i64 0, .slice none 0 0, .slice none 0 0, .slice none 0 0]) (by simp [results, Try.results18, go_sem]) rfl ⟨rfl, (Ext.refl w).alloc _⟩
set_option maxRecDepth 100000 in
theorem ref07_Fresh (w : World) : Calls Try.prog 21 #[] w fun e w' => e = .returned freshK.val ∧ Ext w w' := by
  unfold freshK KV.val
  dsimp only
  go_enter Try.func21, Try.ntmps21
  go_wp2
  refine bodyPost_ret (v := .agg #[.int .i64 1, .int .i64 1, .int .i64 0, .int .i64 0, .slice none 0 0, .slice none 0 0, .slice none 0 0]) (by simp [results, Try.results21, go_sem]) rfl ⟨rfl, (Ext.refl w).alloc _⟩

/-- the catalogue of the document's example -/
def shS1 (g : Nat) : NV := ⟨1, 2, some ⟨g, 0, none⟩, 1, 1, [1], false, ⟨#[]⟩⟩
def shS2 (g : Nat) : NV := ⟨2, 2, some ⟨g, 0, none⟩, 1, 1, [1], false, ⟨#[]⟩⟩
def shK (a b c : Nat) : KV := ⟨1, 3, 1, 0, none, 0, 0, [], none, 0, 0, [], some ⟨c, 0, none⟩, 2, 2, [shS1 a, shS2 b]⟩
theorem shK_ok {w : World} {a b c : Nat} (h1 : Blk w a 3 [.int .i64 1]) (h2 : Blk w b 3 [.int .i64 1])
    (h3 : Blk w c 33 [.int .i64 1, .int .i64 2, .slice (some ⟨a, 0, none⟩) 1 1, .bool false, .string ⟨#[]⟩, .int .i64 2, .int .i64 2, .slice (some ⟨b, 0, none⟩) 1 1, .bool false, .string ⟨#[]⟩]) : (shK a b c).Ok w := by
  have one : ∀ {g : Nat}, Blk w g 3 [.int .i64 1] → Is w (some ⟨g, 0, none⟩) 1 [1] := fun {g} h => ⟨rfl, fun _ => ⟨g, 0, rfl, h.lt, fun j u hu => by rw [Nat.zero_add, h.cell]; exact hu⟩⟩
  have i1 : I64 1 := i64_small (by omega)
  have i2 : I64 2 := i64_small (by omega)
  refine ⟨i1, i64_small (by simp [shK]), i1, i64_small (by simp [shK]), Ts.nil_ _ _ (by omega), Nat.le_refl _, by simp [shK, maxLen], Ts.nil_ _ _ (by omega), Nat.le_refl _, by simp [shK, maxLen], ⟨⟨rfl, fun _ => ⟨c, 0, rfl, h3.lt, fun j u hu => by rw [Nat.zero_add, h3.cell]; exact hu⟩⟩, ?_, by omega⟩, Nat.le_refl _, by simp [shK, maxLen]⟩
  intro f hf
  simp only [shK, List.mem_cons, List.not_mem_nil, or_false] at hf
  rcases hf with rfl | rfl
  · exact ⟨i1, i2, one h1, Nat.le_refl _, by simp [shS1, maxLen], by simp [shS1, i1], by show (0 : Nat) ≤ maxLen; exact Nat.zero_le _⟩
  · exact ⟨i2, i2, one h2, Nat.le_refl _, by simp [shS2, maxLen], by simp [shS2, i1], by show (0 : Nat) ≤ maxLen; exact Nat.zero_le _⟩
theorem shK_few (a b c : Nat) : (shK a b c).Few := ⟨by simp [shK], by simp [shK], by simp [shK], by intro f hf; simp only [shK, List.mem_cons, List.not_mem_nil, or_false] at hf; rcases hf with rfl | rfl <;> simp [shS1, shS2]⟩
theorem shK_kept0 (a b c : Nat) : keptB (shK a b c).keep (shK a b c).sns 0 = false := by rfl
theorem shK_kept1 (a b c : Nat) : keptB (shK a b c).keep (shK a b c).sns 1 = true := by rfl
theorem shK_may (a b c : Nat) : kmay (shK a b c) 1 = 0 := by rfl
theorem nvEq_refl (f : NV) : nvEq f f = true := by simp [nvEq]
theorem snsEq_refl : ∀ l : List NV, snsEq l l = true
  | [] => rfl
  | f :: r => by rw [snsEq_cons, nvEq_refl, snsEq_refl r]; rfl
theorem kSame_refl (s : KV) : kSame s s = true := by simp [kSame, snsEq_refl]

set_option maxRecDepth 100000 in
set_option maxHeartbeats 1600000 in
theorem law07_shown (w : World) : Calls Try.prog 15 #[] w fun e w' => e = .returned (.bool true) ∧ Ext w w' := by
  go_enter Try.func15, Try.ntmps15
  go_upto_region 2 with fail
  have B1 : Blk ((((w.alloc (.cells #[.int .i64 1] 3)).alloc (.cells #[.int .i64 1] 3)).alloc (.cells #[.int .i64 1, .int .i64 2, .slice (some ⟨w.heap.size, 0, none⟩) 1 1, .bool false, .string ⟨#[]⟩, .int .i64 2, .int .i64 2, .slice (some ⟨w.heap.size + 1, 0, none⟩) 1 1, .bool false, .string ⟨#[]⟩] 33)).alloc (.cells #[.int .i64 1, .int .i64 3, .int .i64 1, .int .i64 0, .slice none 0 0, .slice none 0 0, .slice (some ⟨w.heap.size + 1 + 1, 0, none⟩) 2 2] 26)) w.heap.size 3 [.int .i64 1] := (((Blk.new w 3 [.int .i64 1]).alloc _).alloc _).alloc _
  have B2 : Blk ((((w.alloc (.cells #[.int .i64 1] 3)).alloc (.cells #[.int .i64 1] 3)).alloc (.cells #[.int .i64 1, .int .i64 2, .slice (some ⟨w.heap.size, 0, none⟩) 1 1, .bool false, .string ⟨#[]⟩, .int .i64 2, .int .i64 2, .slice (some ⟨w.heap.size + 1, 0, none⟩) 1 1, .bool false, .string ⟨#[]⟩] 33)).alloc (.cells #[.int .i64 1, .int .i64 3, .int .i64 1, .int .i64 0, .slice none 0 0, .slice none 0 0, .slice (some ⟨w.heap.size + 1 + 1, 0, none⟩) 2 2] 26)) (w.heap.size + 1) 3 [.int .i64 1] := by
    have := ((Blk.new (w.alloc (.cells #[.int .i64 1] 3)) 3 [.int .i64 1]).alloc (.cells #[.int .i64 1, .int .i64 2, .slice (some ⟨w.heap.size, 0, none⟩) 1 1, .bool false, .string ⟨#[]⟩, .int .i64 2, .int .i64 2, .slice (some ⟨w.heap.size + 1, 0, none⟩) 1 1, .bool false, .string ⟨#[]⟩] 33)).alloc (.cells #[.int .i64 1, .int .i64 3, .int .i64 1, .int .i64 0, .slice none 0 0, .slice none 0 0, .slice (some ⟨w.heap.size + 1 + 1, 0, none⟩) 2 2] 26)
    simpa using this
  have B3 : Blk ((((w.alloc (.cells #[.int .i64 1] 3)).alloc (.cells #[.int .i64 1] 3)).alloc (.cells #[.int .i64 1, .int .i64 2, .slice (some ⟨w.heap.size, 0, none⟩) 1 1, .bool false, .string ⟨#[]⟩, .int .i64 2, .int .i64 2, .slice (some ⟨w.heap.size + 1, 0, none⟩) 1 1, .bool false, .string ⟨#[]⟩] 33)).alloc (.cells #[.int .i64 1, .int .i64 3, .int .i64 1, .int .i64 0, .slice none 0 0, .slice none 0 0, .slice (some ⟨w.heap.size + 1 + 1, 0, none⟩) 2 2] 26)) (w.heap.size + 1 + 1) 33 [.int .i64 1, .int .i64 2, .slice (some ⟨w.heap.size, 0, none⟩) 1 1, .bool false, .string ⟨#[]⟩, .int .i64 2, .int .i64 2, .slice (some ⟨w.heap.size + 1, 0, none⟩) 1 1, .bool false, .string ⟨#[]⟩] := by
    have := (Blk.new ((w.alloc (.cells #[.int .i64 1] 3)).alloc (.cells #[.int .i64 1] 3)) 33 [.int .i64 1, .int .i64 2, .slice (some ⟨w.heap.size, 0, none⟩) 1 1, .bool false, .string ⟨#[]⟩, .int .i64 2, .int .i64 2, .slice (some ⟨w.heap.size + 1, 0, none⟩) 1 1, .bool false, .string ⟨#[]⟩]).alloc (.cells #[.int .i64 1, .int .i64 3, .int .i64 1, .int .i64 0, .slice none 0 0, .slice none 0 0, .slice (some ⟨w.heap.size + 1 + 1, 0, none⟩) 2 2] 26)
    simpa using this
  have B4 : Blk ((((w.alloc (.cells #[.int .i64 1] 3)).alloc (.cells #[.int .i64 1] 3)).alloc (.cells #[.int .i64 1, .int .i64 2, .slice (some ⟨w.heap.size, 0, none⟩) 1 1, .bool false, .string ⟨#[]⟩, .int .i64 2, .int .i64 2, .slice (some ⟨w.heap.size + 1, 0, none⟩) 1 1, .bool false, .string ⟨#[]⟩] 33)).alloc (.cells #[.int .i64 1, .int .i64 3, .int .i64 1, .int .i64 0, .slice none 0 0, .slice none 0 0, .slice (some ⟨w.heap.size + 1 + 1, 0, none⟩) 2 2] 26)) (w.heap.size + 1 + 1 + 1) 26 [.int .i64 1, .int .i64 3, .int .i64 1, .int .i64 0, .slice none 0 0, .slice none 0 0, .slice (some ⟨w.heap.size + 1 + 1, 0, none⟩) 2 2] := by
    have := Blk.new (((w.alloc (.cells #[.int .i64 1] 3)).alloc (.cells #[.int .i64 1] 3)).alloc (.cells #[.int .i64 1, .int .i64 2, .slice (some ⟨w.heap.size, 0, none⟩) 1 1, .bool false, .string ⟨#[]⟩, .int .i64 2, .int .i64 2, .slice (some ⟨w.heap.size + 1, 0, none⟩) 1 1, .bool false, .string ⟨#[]⟩] 33)) 26 [.int .i64 1, .int .i64 3, .int .i64 1, .int .i64 0, .slice none 0 0, .slice none 0 0, .slice (some ⟨w.heap.size + 1 + 1, 0, none⟩) 2 2]
    simpa using this
  have xW : Ext w ((((w.alloc (.cells #[.int .i64 1] 3)).alloc (.cells #[.int .i64 1] 3)).alloc (.cells #[.int .i64 1, .int .i64 2, .slice (some ⟨w.heap.size, 0, none⟩) 1 1, .bool false, .string ⟨#[]⟩, .int .i64 2, .int .i64 2, .slice (some ⟨w.heap.size + 1, 0, none⟩) 1 1, .bool false, .string ⟨#[]⟩] 33)).alloc (.cells #[.int .i64 1, .int .i64 3, .int .i64 1, .int .i64 0, .slice none 0 0, .slice none 0 0, .slice (some ⟨w.heap.size + 1 + 1, 0, none⟩) 2 2] 26)) := ((((Ext.refl w).alloc _).alloc _).alloc _).alloc _
  have hok := shK_ok B1 B2 B3
  generalize ((((w.alloc (.cells #[.int .i64 1] 3)).alloc (.cells #[.int .i64 1] 3)).alloc (.cells #[.int .i64 1, .int .i64 2, .slice (some ⟨w.heap.size, 0, none⟩) 1 1, .bool false, .string ⟨#[]⟩, .int .i64 2, .int .i64 2, .slice (some ⟨w.heap.size + 1, 0, none⟩) 1 1, .bool false, .string ⟨#[]⟩] 33)).alloc (.cells #[.int .i64 1, .int .i64 3, .int .i64 1, .int .i64 0, .slice none 0 0, .slice none 0 0, .slice (some ⟨w.heap.size + 1 + 1, 0, none⟩) 2 2] 26)) = W at *
  have hfew := shK_few w.heap.size (w.heap.size + 1) (w.heap.size + 1 + 1)
  have K0 := Lib.hid (st_Kept _ 0 W hok hfew.n3)
  have K1 := Lib.hid (fun (w' : World) (h : Ext W w') => st_Kept _ 1 w' (hok.ext h) hfew.n3)
  have K2 := Lib.hid (fun (w' : World) (h : Ext W w') => st_May _ 1 w' (hok.ext h) hfew.n1 hfew.n2 hfew.n3 hfew.ch)
  have K3 := Lib.hid (fun (w' : World) (h : Ext W w') => st_Same _ _ true (kSame_refl _) w' (hok.ext h) (hok.ext h) hfew hfew)
  rw [shK_kept0] at K0
  simp only [shK_kept1] at K1
  simp only [shK_may] at K2
  have Hcells := Lib.hid (fun (w' : World) (h : Ext W w') (i : Nat) => (B4.ext h).cell i)
  have d0 := B4.cell 0
  have d1 := B4.cell 1
  have d2 := B4.cell 2
  have d3 := B4.cell 3
  have d4 := B4.cell 4
  have d5 := B4.cell 5
  have d6 := B4.cell 6
  simp only [List.getElem?_cons_zero, List.getElem?_cons_succ] at d0 d1 d2 d3 d4 d5 d6
  clear B1 B2 B3 B4 hok hfew
  unfold shK KV.val at K0 K1 K2 K3
  dsimp only at K0 K1 K2 K3
  go_wp2_with fail
  refine K0.out.mono ?_
  rintro e w1 ⟨rfl, y1⟩
  have d0 := Hcells.out _ y1 0
  have d1 := Hcells.out _ y1 1
  have d2 := Hcells.out _ y1 2
  have d3 := Hcells.out _ y1 3
  have d4 := Hcells.out _ y1 4
  have d5 := Hcells.out _ y1 5
  have d6 := Hcells.out _ y1 6
  simp only [List.getElem?_cons_zero, List.getElem?_cons_succ] at d0 d1 d2 d3 d4 d5 d6
  go_wp2_with fail
  refine (K1.out _ y1).mono ?_
  rintro e w2 ⟨rfl, y2'⟩
  have y2 := y1.trans y2'
  have d0 := Hcells.out _ y2 0
  have d1 := Hcells.out _ y2 1
  have d2 := Hcells.out _ y2 2
  have d3 := Hcells.out _ y2 3
  have d4 := Hcells.out _ y2 4
  have d5 := Hcells.out _ y2 5
  have d6 := Hcells.out _ y2 6
  simp only [List.getElem?_cons_zero, List.getElem?_cons_succ] at d0 d1 d2 d3 d4 d5 d6
  go_wp2_with fail
  refine (K2.out _ y2).mono ?_
  rintro e w3 ⟨rfl, y3'⟩
  have y3 := y2.trans y3'
  have d0 := Hcells.out _ y3 0
  have d1 := Hcells.out _ y3 1
  have d2 := Hcells.out _ y3 2
  have d3 := Hcells.out _ y3 3
  have d4 := Hcells.out _ y3 4
  have d5 := Hcells.out _ y3 5
  have d6 := Hcells.out _ y3 6
  simp only [List.getElem?_cons_zero, List.getElem?_cons_succ] at d0 d1 d2 d3 d4 d5 d6
  go_wp2_with fail
  refine (K3.out _ y3).mono ?_
  rintro e w4 ⟨rfl, y4'⟩
  have y4 := y3.trans y4'
  clear K0 K1 K2 K3 Hcells
  go_wp2_with fail
  refine (st_Fresh _).mono ?_
  rintro e w5 ⟨rfl, y5⟩
  unfold freshK KV.val
  dsimp only
  have hfd : ∀ W : World, (Instr.field 26 (.agg #[.int .i64 1, .int .i64 1, .int .i64 0, .int .i64 0, .slice none 0 0, .slice none 0 0, .slice none 0 0]) 1).run Try.prog W = .ok (.int .i64 1) W := fun _ => by kernel_rfl
  go_wp2
  go_ret
  exact ⟨rfl, (xW.trans y4).trans y5⟩
end Go.Proofs.Ytiildgoaiookhaa
