/- Words and walks that the last text of this claim stands on: StH, StO, StP, StPa, FormA, FormB, StCl, ImL. No condition. -/
import Derived.Test.YtiildgoaiookhaaB08
import Derived.Test.YtiildgoaiookhaaProg
import Derived.Test.YtiildgoaiookhaaB05
import Derived.Test.YtiildgoaiookhaaB03
import Derived.Test.YtiildgoaiookhaaB01
import Derived.Test.YtiildgoaiookhaaB06
/- The walk of shown of layer 7's laws. -/
namespace Go.Proofs.Ytiildgoaiookhaa
open Go.RowKit

/-- an empty catalogue -/
def freshK : KV := ⟨1, 1, 0, 0, none, 0, 0, [], none, 0, 0, [], none, 0, 0, []⟩
theorem i64_small {n : Int} (h : -1000000 ≤ n ∧ n ≤ 1000000) : I64 n := ⟨by omega, by omega⟩
theorem freshK_ok (w : World) : freshK.Ok w :=
  ⟨i64_small (by simp [freshK]), i64_small (by simp [freshK]), i64_small (by simp [freshK]), i64_small (by simp [freshK]), Ts.nil_ _ _ (by omega), Nat.le_refl _, by decide, Ts.nil_ _ _ (by omega), Nat.le_refl _, by decide, Ts.nil_ _ _ (by omega), Nat.le_refl _, by decide⟩
theorem freshK_few : freshK.Few := ⟨by decide, by decide, by decide, by simp [freshK]⟩
set_option maxRecDepth 100000 in
theorem st_Fresh (w : World) : Calls Try.prog 18 #[] w fun e w' => e = .returned freshK.val ∧ Ext w w' := by
  unfold freshK KV.val
  dsimp only
  go_enter Try.func18, Try.ntmps18
  go_wp2
  refine bodyPost_ret (v := .agg #[.int .i64 1, .int .i64 1, .int .i64 0, .int .i64 0, .slice none 0 0, .slice none 0 0, .slice none 0 0]) (by simp [results, Try.results18, go_sem]) rfl ⟨rfl, (Ext.refl w).alloc _⟩
set_option maxRecDepth 100000 in
theorem ref07_Fresh (w : World) : Calls Try.prog 21 #[] w fun e w' => e = .returned freshK.val ∧ Ext w w' := by
  unfold freshK KV.val
  dsimp only
  go_enter Try.func21, Try.ntmps21
  go_wp2
  refine bodyPost_ret (v := .agg #[.int .i64 1, .int .i64 1, .int .i64 0, .int .i64 0, .slice none 0 0, .slice none 0 0, .slice none 0 0]) (by simp [results, Try.results21, go_sem]) rfl ⟨rfl, (Ext.refl w).alloc _⟩

/-- the catalogue of the document's example -/
def shS1 (g : Nat) : NV := ⟨1, 2, some ⟨g, 0, none⟩, 1, 1, [1], false, ⟨#[]⟩⟩
def shS2 (g : Nat) : NV := ⟨2, 2, some ⟨g, 0, none⟩, 1, 1, [1], false, ⟨#[]⟩⟩
def shK (a b c : Nat) : KV := ⟨1, 3, 1, 0, none, 0, 0, [], none, 0, 0, [], some ⟨c, 0, none⟩, 2, 2, [shS1 a, shS2 b]⟩
theorem shK_ok {w : World} {a b c : Nat} (h1 : Blk w a 3 [.int .i64 1]) (h2 : Blk w b 3 [.int .i64 1])
    (h3 : Blk w c 33 [.int .i64 1, .int .i64 2, .slice (some ⟨a, 0, none⟩) 1 1, .bool false, .string ⟨#[]⟩, .int .i64 2, .int .i64 2, .slice (some ⟨b, 0, none⟩) 1 1, .bool false, .string ⟨#[]⟩]) : (shK a b c).Ok w := by
  have one : ∀ {g : Nat}, Blk w g 3 [.int .i64 1] → Is w (some ⟨g, 0, none⟩) 1 [1] := fun {g} h => ⟨rfl, fun _ => ⟨g, 0, rfl, h.lt, fun j u hu => by rw [Nat.zero_add, h.cell]; exact hu⟩⟩
  have i1 : I64 1 := i64_small (by omega)
  have i2 : I64 2 := i64_small (by omega)
  refine ⟨i1, i64_small (by simp [shK]), i1, i64_small (by simp [shK]), Ts.nil_ _ _ (by omega), Nat.le_refl _, by simp [shK, maxLen], Ts.nil_ _ _ (by omega), Nat.le_refl _, by simp [shK, maxLen], ⟨⟨rfl, fun _ => ⟨c, 0, rfl, h3.lt, fun j u hu => by rw [Nat.zero_add, h3.cell]; exact hu⟩⟩, ?_, by omega⟩, Nat.le_refl _, by simp [shK, maxLen]⟩
  intro f hf
  simp only [shK, List.mem_cons, List.not_mem_nil, or_false] at hf
  rcases hf with rfl | rfl
  · exact ⟨i1, i2, one h1, Nat.le_refl _, by simp [shS1, maxLen], by simp [shS1, i1], by show (0 : Nat) ≤ maxLen; exact Nat.zero_le _⟩
  · exact ⟨i2, i2, one h2, Nat.le_refl _, by simp [shS2, maxLen], by simp [shS2, i1], by show (0 : Nat) ≤ maxLen; exact Nat.zero_le _⟩
theorem shK_few (a b c : Nat) : (shK a b c).Few := ⟨by simp [shK], by simp [shK], by simp [shK], by intro f hf; simp only [shK, List.mem_cons, List.not_mem_nil, or_false] at hf; rcases hf with rfl | rfl <;> simp [shS1, shS2]⟩
theorem shK_kept0 (a b c : Nat) : keptB (shK a b c).keep (shK a b c).sns 0 = false := by rfl
theorem shK_kept1 (a b c : Nat) : keptB (shK a b c).keep (shK a b c).sns 1 = true := by rfl
theorem shK_may (a b c : Nat) : kmay (shK a b c) 1 = 0 := by rfl
theorem nvEq_refl (f : NV) : nvEq f f = true := by simp [nvEq]
theorem snsEq_refl : ∀ l : List NV, snsEq l l = true
  | [] => rfl
  | f :: r => by rw [snsEq_cons, nvEq_refl, snsEq_refl r]; rfl
theorem kSame_refl (s : KV) : kSame s s = true := by simp [kSame, snsEq_refl]

set_option maxRecDepth 100000 in
set_option maxHeartbeats 1600000 in
theorem law07_shown (w : World) : Calls Try.prog 15 #[] w fun e w' => e = .returned (.bool true) ∧ Ext w w' := by
  go_enter Try.func15, Try.ntmps15
  go_upto_region 2 with fail
  have B1 : Blk ((((w.alloc (.cells #[.int .i64 1] 3)).alloc (.cells #[.int .i64 1] 3)).alloc (.cells #[.int .i64 1, .int .i64 2, .slice (some ⟨w.heap.size, 0, none⟩) 1 1, .bool false, .string ⟨#[]⟩, .int .i64 2, .int .i64 2, .slice (some ⟨w.heap.size + 1, 0, none⟩) 1 1, .bool false, .string ⟨#[]⟩] 33)).alloc (.cells #[.int .i64 1, .int .i64 3, .int .i64 1, .int .i64 0, .slice none 0 0, .slice none 0 0, .slice (some ⟨w.heap.size + 1 + 1, 0, none⟩) 2 2] 26)) w.heap.size 3 [.int .i64 1] := (((Blk.new w 3 [.int .i64 1]).alloc _).alloc _).alloc _
  have B2 : Blk ((((w.alloc (.cells #[.int .i64 1] 3)).alloc (.cells #[.int .i64 1] 3)).alloc (.cells #[.int .i64 1, .int .i64 2, .slice (some ⟨w.heap.size, 0, none⟩) 1 1, .bool false, .string ⟨#[]⟩, .int .i64 2, .int .i64 2, .slice (some ⟨w.heap.size + 1, 0, none⟩) 1 1, .bool false, .string ⟨#[]⟩] 33)).alloc (.cells #[.int .i64 1, .int .i64 3, .int .i64 1, .int .i64 0, .slice none 0 0, .slice none 0 0, .slice (some ⟨w.heap.size + 1 + 1, 0, none⟩) 2 2] 26)) (w.heap.size + 1) 3 [.int .i64 1] := by
    have := ((Blk.new (w.alloc (.cells #[.int .i64 1] 3)) 3 [.int .i64 1]).alloc (.cells #[.int .i64 1, .int .i64 2, .slice (some ⟨w.heap.size, 0, none⟩) 1 1, .bool false, .string ⟨#[]⟩, .int .i64 2, .int .i64 2, .slice (some ⟨w.heap.size + 1, 0, none⟩) 1 1, .bool false, .string ⟨#[]⟩] 33)).alloc (.cells #[.int .i64 1, .int .i64 3, .int .i64 1, .int .i64 0, .slice none 0 0, .slice none 0 0, .slice (some ⟨w.heap.size + 1 + 1, 0, none⟩) 2 2] 26)
    simpa using this
  have B3 : Blk ((((w.alloc (.cells #[.int .i64 1] 3)).alloc (.cells #[.int .i64 1] 3)).alloc (.cells #[.int .i64 1, .int .i64 2, .slice (some ⟨w.heap.size, 0, none⟩) 1 1, .bool false, .string ⟨#[]⟩, .int .i64 2, .int .i64 2, .slice (some ⟨w.heap.size + 1, 0, none⟩) 1 1, .bool false, .string ⟨#[]⟩] 33)).alloc (.cells #[.int .i64 1, .int .i64 3, .int .i64 1, .int .i64 0, .slice none 0 0, .slice none 0 0, .slice (some ⟨w.heap.size + 1 + 1, 0, none⟩) 2 2] 26)) (w.heap.size + 1 + 1) 33 [.int .i64 1, .int .i64 2, .slice (some ⟨w.heap.size, 0, none⟩) 1 1, .bool false, .string ⟨#[]⟩, .int .i64 2, .int .i64 2, .slice (some ⟨w.heap.size + 1, 0, none⟩) 1 1, .bool false, .string ⟨#[]⟩] := by
    have := (Blk.new ((w.alloc (.cells #[.int .i64 1] 3)).alloc (.cells #[.int .i64 1] 3)) 33 [.int .i64 1, .int .i64 2, .slice (some ⟨w.heap.size, 0, none⟩) 1 1, .bool false, .string ⟨#[]⟩, .int .i64 2, .int .i64 2, .slice (some ⟨w.heap.size + 1, 0, none⟩) 1 1, .bool false, .string ⟨#[]⟩]).alloc (.cells #[.int .i64 1, .int .i64 3, .int .i64 1, .int .i64 0, .slice none 0 0, .slice none 0 0, .slice (some ⟨w.heap.size + 1 + 1, 0, none⟩) 2 2] 26)
    simpa using this
  have B4 : Blk ((((w.alloc (.cells #[.int .i64 1] 3)).alloc (.cells #[.int .i64 1] 3)).alloc (.cells #[.int .i64 1, .int .i64 2, .slice (some ⟨w.heap.size, 0, none⟩) 1 1, .bool false, .string ⟨#[]⟩, .int .i64 2, .int .i64 2, .slice (some ⟨w.heap.size + 1, 0, none⟩) 1 1, .bool false, .string ⟨#[]⟩] 33)).alloc (.cells #[.int .i64 1, .int .i64 3, .int .i64 1, .int .i64 0, .slice none 0 0, .slice none 0 0, .slice (some ⟨w.heap.size + 1 + 1, 0, none⟩) 2 2] 26)) (w.heap.size + 1 + 1 + 1) 26 [.int .i64 1, .int .i64 3, .int .i64 1, .int .i64 0, .slice none 0 0, .slice none 0 0, .slice (some ⟨w.heap.size + 1 + 1, 0, none⟩) 2 2] := by
    have := Blk.new (((w.alloc (.cells #[.int .i64 1] 3)).alloc (.cells #[.int .i64 1] 3)).alloc (.cells #[.int .i64 1, .int .i64 2, .slice (some ⟨w.heap.size, 0, none⟩) 1 1, .bool false, .string ⟨#[]⟩, .int .i64 2, .int .i64 2, .slice (some ⟨w.heap.size + 1, 0, none⟩) 1 1, .bool false, .string ⟨#[]⟩] 33)) 26 [.int .i64 1, .int .i64 3, .int .i64 1, .int .i64 0, .slice none 0 0, .slice none 0 0, .slice (some ⟨w.heap.size + 1 + 1, 0, none⟩) 2 2]
    simpa using this
  have xW : Ext w ((((w.alloc (.cells #[.int .i64 1] 3)).alloc (.cells #[.int .i64 1] 3)).alloc (.cells #[.int .i64 1, .int .i64 2, .slice (some ⟨w.heap.size, 0, none⟩) 1 1, .bool false, .string ⟨#[]⟩, .int .i64 2, .int .i64 2, .slice (some ⟨w.heap.size + 1, 0, none⟩) 1 1, .bool false, .string ⟨#[]⟩] 33)).alloc (.cells #[.int .i64 1, .int .i64 3, .int .i64 1, .int .i64 0, .slice none 0 0, .slice none 0 0, .slice (some ⟨w.heap.size + 1 + 1, 0, none⟩) 2 2] 26)) := ((((Ext.refl w).alloc _).alloc _).alloc _).alloc _
  have hok := shK_ok B1 B2 B3
  generalize ((((w.alloc (.cells #[.int .i64 1] 3)).alloc (.cells #[.int .i64 1] 3)).alloc (.cells #[.int .i64 1, .int .i64 2, .slice (some ⟨w.heap.size, 0, none⟩) 1 1, .bool false, .string ⟨#[]⟩, .int .i64 2, .int .i64 2, .slice (some ⟨w.heap.size + 1, 0, none⟩) 1 1, .bool false, .string ⟨#[]⟩] 33)).alloc (.cells #[.int .i64 1, .int .i64 3, .int .i64 1, .int .i64 0, .slice none 0 0, .slice none 0 0, .slice (some ⟨w.heap.size + 1 + 1, 0, none⟩) 2 2] 26)) = W at *
  have hfew := shK_few w.heap.size (w.heap.size + 1) (w.heap.size + 1 + 1)
  have K0 := Lib.hid (st_Kept _ 0 W hok hfew.n3)
  have K1 := Lib.hid (fun (w' : World) (h : Ext W w') => st_Kept _ 1 w' (hok.ext h) hfew.n3)
  have K2 := Lib.hid (fun (w' : World) (h : Ext W w') => st_May _ 1 w' (hok.ext h) hfew.n1 hfew.n2 hfew.n3 hfew.ch)
  have K3 := Lib.hid (fun (w' : World) (h : Ext W w') => st_Same _ _ true (kSame_refl _) w' (hok.ext h) (hok.ext h) hfew hfew)
  rw [shK_kept0] at K0
  simp only [shK_kept1] at K1
  simp only [shK_may] at K2
  have Hcells := Lib.hid (fun (w' : World) (h : Ext W w') (i : Nat) => (B4.ext h).cell i)
  have d0 := B4.cell 0
  have d1 := B4.cell 1
  have d2 := B4.cell 2
  have d3 := B4.cell 3
  have d4 := B4.cell 4
  have d5 := B4.cell 5
  have d6 := B4.cell 6
  simp only [List.getElem?_cons_zero, List.getElem?_cons_succ] at d0 d1 d2 d3 d4 d5 d6
  clear B1 B2 B3 B4 hok hfew
  unfold shK KV.val at K0 K1 K2 K3
  dsimp only at K0 K1 K2 K3
  go_wp2_with fail
  refine K0.out.mono ?_
  rintro e w1 ⟨rfl, y1⟩
  have d0 := Hcells.out _ y1 0
  have d1 := Hcells.out _ y1 1
  have d2 := Hcells.out _ y1 2
  have d3 := Hcells.out _ y1 3
  have d4 := Hcells.out _ y1 4
  have d5 := Hcells.out _ y1 5
  have d6 := Hcells.out _ y1 6
  simp only [List.getElem?_cons_zero, List.getElem?_cons_succ] at d0 d1 d2 d3 d4 d5 d6
  go_wp2_with fail
  refine (K1.out _ y1).mono ?_
  rintro e w2 ⟨rfl, y2'⟩
  have y2 := y1.trans y2'
  have d0 := Hcells.out _ y2 0
  have d1 := Hcells.out _ y2 1
  have d2 := Hcells.out _ y2 2
  have d3 := Hcells.out _ y2 3
  have d4 := Hcells.out _ y2 4
  have d5 := Hcells.out _ y2 5
  have d6 := Hcells.out _ y2 6
  simp only [List.getElem?_cons_zero, List.getElem?_cons_succ] at d0 d1 d2 d3 d4 d5 d6
  go_wp2_with fail
  refine (K2.out _ y2).mono ?_
  rintro e w3 ⟨rfl, y3'⟩
  have y3 := y2.trans y3'
  have d0 := Hcells.out _ y3 0
  have d1 := Hcells.out _ y3 1
  have d2 := Hcells.out _ y3 2
  have d3 := Hcells.out _ y3 3
  have d4 := Hcells.out _ y3 4
  have d5 := Hcells.out _ y3 5
  have d6 := Hcells.out _ y3 6
  simp only [List.getElem?_cons_zero, List.getElem?_cons_succ] at d0 d1 d2 d3 d4 d5 d6
  go_wp2_with fail
  refine (K3.out _ y3).mono ?_
  rintro e w4 ⟨rfl, y4'⟩
  have y4 := y3.trans y4'
  clear K0 K1 K2 K3 Hcells
  go_wp2_with fail
  refine (st_Fresh _).mono ?_
  rintro e w5 ⟨rfl, y5⟩
  unfold freshK KV.val
  dsimp only
  have hfd : ∀ W : World, (Instr.field 26 (.agg #[.int .i64 1, .int .i64 1, .int .i64 0, .int .i64 0, .slice none 0 0, .slice none 0 0, .slice none 0 0]) 1).run Try.prog W = .ok (.int .i64 1) W := fun _ => by kernel_rfl
  go_wp2
  go_ret
  exact ⟨rfl, (xW.trans y4).trans y5⟩
end Go.Proofs.Ytiildgoaiookhaa

/- What the laws of layer 7 begin with. -/
namespace Go.Proofs.Ytiildgoaiookhaa
open Go.RowKit

theorem lessK_few (s : KV) (A : Option Addr) (c : Nat) : (lessK s A c).Few :=
  ⟨by dsimp only [lessK]; omega, by dsimp only [lessK]; omega, by dsimp only [lessK]; omega, fun f hf => by
    obtain ⟨g, _, rfl⟩ := List.mem_map.1 hf
    have := cutN_len g; omega⟩
/-- a world in which a block of seven cells was stored anew -/
def put7 (w : World) (g : Nat) (a b c d e f v : Value) : World := ((((((w.setCell ⟨g, 0, none⟩ a).setCell ⟨g, 1, none⟩ b).setCell ⟨g, 2, none⟩ c).setCell ⟨g, 3, none⟩ d).setCell ⟨g, 4, none⟩ e).setCell ⟨g, 5, none⟩ f).setCell ⟨g, 6, none⟩ v
theorem Blk.st7 {w : World} {g : Nat} {t : TypeId} {a' b' c' d' e' f' v' : Value} (h : Blk w g t [a', b', c', d', e', f', v']) (a b c d e f v : Value) : Blk (put7 w g a b c d e f v) g t [a, b, c, d, e, f, v] := by
  have := ((((((h.set_ 0 a).set_ 1 b).set_ 2 c).set_ 3 d).set_ 4 e).set_ 5 f).set_ 6 v
  unfold put7
  simpa using this
theorem Ext.st7 {w0 w : World} {g : Nat} (h : Ext w0 w) (hg : w0.heap.size ≤ g) (a b c d e f v : Value) : Ext w0 (put7 w g a b c d e f v) :=
  ((((((h.setCell (p := ⟨g, 0, none⟩) hg a).setCell (p := ⟨g, 1, none⟩) hg b).setCell (p := ⟨g, 2, none⟩) hg c).setCell (p := ⟨g, 3, none⟩) hg d).setCell (p := ⟨g, 4, none⟩) hg e).setCell (p := ⟨g, 5, none⟩) hg f).setCell (p := ⟨g, 6, none⟩) hg v
theorem own_st7 {w : World} {base : Nat} {t : TypeId} {size n : Nat} {u : Value} {xs : List Value} (h : w.ownsRow base t size u n xs) {g : Nat} (hg : g < base) (a b c d e f v : Value) : (put7 w g a b c d e f v).ownsRow base t size u n xs :=
  own_set (own_set (own_set (own_set (own_set (own_set (own_set h (p := ⟨g, 0, none⟩) hg a) (p := ⟨g, 1, none⟩) hg b) (p := ⟨g, 2, none⟩) hg c) (p := ⟨g, 3, none⟩) hg d) (p := ⟨g, 4, none⟩) hg e) (p := ⟨g, 5, none⟩) hg f) (p := ⟨g, 6, none⟩) hg v
theorem st7_def (w : World) (g : Nat) (a b c d e f v : Value) : ((((((w.setCell ⟨g, 0, none⟩ a).setCell ⟨g, 1, none⟩ b).setCell ⟨g, 2, none⟩ c).setCell ⟨g, 3, none⟩ d).setCell ⟨g, 4, none⟩ e).setCell ⟨g, 5, none⟩ f).setCell ⟨g, 6, none⟩ v = put7 w g a b c d e f v := rfl
end Go.Proofs.Ytiildgoaiookhaa

/- What May says of catalogues that are alike, in plain words. -/
namespace Go.Proofs.Ytiildgoaiookhaa
open Go.RowKit

theorem codeB_0 {b : Bool} : codeB b = 0 ↔ b = true := by rcases b with _ | _ <;> simp [codeB]
theorem kmay_ok {s : KV} {v : Int} (h1 : 1 ≤ v) (h3 : v ≤ 3) : kmay s v = 0 ↔ numB s v = true ∧ sesOk s.ses = true ∧ opsOk s.ops = true ∧ snsB v s.next s.sns = true := by
  unfold kmay
  rw [if_neg (by rw [inI_t h1 h3]; simp), codeB_0]
  simp only [Bool.and_eq_true]
  constructor
  · rintro ⟨⟨⟨a, b⟩, c⟩, d⟩; exact ⟨a, b, c, d⟩
  · rintro ⟨a, b, c, d⟩; exact ⟨⟨⟨a, b⟩, c⟩, d⟩
theorem numB_iff {s : KV} {v : Int} : numB s v = true ↔ (1 ≤ s.ver ∧ s.ver ≤ 3) ∧ (1 ≤ s.next ∧ s.next ≤ 1048576) ∧ (0 ≤ s.keep ∧ s.keep ≤ 8) ∧ (0 ≤ s.quota ∧ s.quota ≤ quotaLim v) := by
  unfold numB; simp only [Bool.and_eq_true, inI_iff]
theorem snsB_iff {v next : Int} {l : List NV} : snsB v next l = true ↔ l.length ≤ 16 ∧ risB NV.id (next - 1) 0 l = true ∧ ∀ f ∈ l, snB v (tagLim v) f = true := by
  unfold snsB; simp only [Bool.and_eq_true, decide_eq_true_eq, List.all_eq_true]
theorem quotaLim_up {v : Int} : quotaLim v ≤ quotaLim (v + 1) := by unfold quotaLim; split <;> split <;> omega
theorem tagLim_up {v : Int} : tagLim v ≤ tagLim (v + 1) := by unfold tagLim; split <;> split <;> omega
theorem kmay_up {s : KV} {v : Int} (h1 : 1 ≤ v) (h2 : v ≤ 2) (h : kmay s v = 0) : kmay s (v + 1) = 0 := by
  obtain ⟨a, b, c, d⟩ := (kmay_ok h1 (by omega)).1 h
  refine (kmay_ok (by omega) (by omega)).2 ⟨?_, b, c, ?_⟩
  · obtain ⟨x1, x2, x3, x4⟩ := numB_iff.1 a
    have := quotaLim_up (v := v)
    exact numB_iff.2 ⟨x1, x2, x3, x4.1, by omega⟩
  · obtain ⟨y1, y2, y3⟩ := snsB_iff.1 d
    refine snsB_iff.2 ⟨y1, y2, fun f hf => ?_⟩
    obtain ⟨z1, z2, z3, z4⟩ := snB_ok.1 (y3 f hf)
    have := tagLim_up (v := v)
    exact snB_ok.2 ⟨z1, z2, fun h => by have := z3 h; omega, by omega⟩
theorem risB_map {α : Type} {key : α → Int} {m : Int} {g : α → α} (hg : ∀ x, key (g x) = key x) : ∀ (l : List α) (a : Int), risB key m a (l.map g) = risB key m a l
  | [], _ => rfl
  | x :: r, a => by rw [List.map_cons, risB_cons, risB_cons, hg, risB_map hg r]
/-- a snapshot without what is new behind a version -/
def bareN (v : Int) (f : NV) : NV := ⟨f.id, f.set, f.A, f.len, f.cap, f.ch, if v = 1 then false else f.held, if v = 2 then ⟨#[]⟩ else f.tag⟩
theorem bareN_ok {v : Int} {f : NV} {w : World} (h : f.Ok w) : (bareN v f).Ok w :=
  ⟨h.u0, h.u1, h.cs, h.le, h.cap, h.uc, by
    have := h.ut
    unfold bareN; dsimp only
    split
    · exact Nat.zero_le _
    · exact this⟩
def bareK (v : Int) (s : KV) (A : Option Addr) (c : Nat) : KV := ⟨s.ver, s.next, s.keep, if v = 2 then 0 else s.quota, s.A1, s.n1, s.c1, s.ses, s.A2, s.n2, s.c2, s.ops, A, s.n3, c, s.sns.map (bareN v)⟩
theorem bareK_may {s : KV} {v : Int} (A : Option Addr) (c : Nat) (hv : v = 1 ∨ v = 2) (h : kmay s (v + 1) = 0) : kmay (bareK v s A c) v = 0 := by
  obtain ⟨a, b, c', d⟩ := (kmay_ok (by omega) (by omega)).1 h
  refine (kmay_ok (by omega) (by omega)).2 ⟨?_, b, c', ?_⟩
  · obtain ⟨x1, x2, x3, x4⟩ := numB_iff.1 a
    refine numB_iff.2 ⟨x1, x2, x3, ?_⟩
    unfold bareK quotaLim
    dsimp only
    unfold quotaLim at x4
    rcases hv with rfl | rfl
    · rw [if_neg (by omega), if_pos (by omega)]; rw [if_pos (by omega)] at x4; exact x4
    · rw [if_pos rfl, if_pos (by omega)]; omega
  · obtain ⟨y1, y2, y3⟩ := snsB_iff.1 d
    refine snsB_iff.2 ⟨by unfold bareK; simpa using y1, by unfold bareK; dsimp only; rw [risB_map (g := bareN v) (fun _ => rfl)]; exact y2, ?_⟩
    intro f hf
    obtain ⟨g, hg, rfl⟩ := List.mem_map.1 hf
    obtain ⟨z1, z2, z3, z4⟩ := snB_ok.1 (y3 g hg)
    rcases hv with rfl | rfl
    · exact snB_ok.2 ⟨z1, z2, fun h => by simp [bareN] at h, z4⟩
    · refine snB_ok.2 ⟨z1, z2, fun _ => by omega, ?_⟩
      unfold bareN tagLim
      dsimp only
      rw [if_pos rfl, if_pos (by omega)]
      exact Int.le_refl 0
end Go.Proofs.Ytiildgoaiookhaa

/- A catalogue without one of its things, or with a snapshot twice: what May says, in plain words. -/
namespace Go.Proofs.Ytiildgoaiookhaa
open Go.RowKit

theorem risB_weak {α : Type} {key : α → Int} {m : Int} : ∀ {l : List α} {a a' : Int}, a' ≤ a → risB key m a l = true → risB key m a' l = true
  | [], _, _, _, _ => rfl
  | e :: r, a, a', h, hr => by
    rw [risB_cons] at hr ⊢
    simp only [Bool.and_eq_true] at hr ⊢
    obtain ⟨k1, k2⟩ := inI_iff.1 hr.1
    exact ⟨inI_t (by omega) k2, hr.2⟩
theorem risB_less {α : Type} {key : α → Int} {m : Int} {x : α} : ∀ {l1 l2 : List α} {a : Int}, risB key m a (l1 ++ x :: l2) = true → risB key m a (l1 ++ l2) = true
  | [], l2, a, h => by
    rw [List.nil_append, risB_cons] at h
    simp only [Bool.and_eq_true] at h
    obtain ⟨k1, _⟩ := inI_iff.1 h.1
    exact risB_weak (by omega) h.2
  | e :: r, l2, a, h => by
    rw [List.cons_append, risB_cons] at h ⊢
    simp only [Bool.and_eq_true] at h ⊢
    exact ⟨h.1, risB_less h.2⟩
theorem risB_gt {α : Type} {key : α → Int} {m : Int} : ∀ {l : List α} {a : Int}, risB key m a l = true → ∀ y ∈ l, a < key y
  | [], _, _, y, hy => by simp at hy
  | e :: r, a, h, y, hy => by
    rw [risB_cons] at h
    simp only [Bool.and_eq_true] at h
    obtain ⟨k1, _⟩ := inI_iff.1 h.1
    rcases List.mem_cons.1 hy with rfl | hy
    · omega
    · have := risB_gt h.2 y hy; omega
theorem risB_last {α : Type} {key : α → Int} {m : Int} {x : α} : ∀ {l : List α} {a : Int}, risB key m a (l ++ [x]) = true → ∀ y ∈ l, key y < key x
  | [], _, _, y, hy => by simp at hy
  | e :: r, a, h, y, hy => by
    rw [List.cons_append, risB_cons] at h
    simp only [Bool.and_eq_true] at h
    rcases List.mem_cons.1 hy with rfl | hy
    · exact risB_gt h.2 x (by simp)
    · exact risB_last h.2 y hy
theorem take_drop_mid {α : Type} (l : List α) (i : Nat) (h : i < l.length) : l = l.take i ++ l[i] :: l.drop (i + 1) := by
  rw [← List.drop_eq_getElem_cons h, List.take_append_drop]
/-- without one of its clients -/
def lessSes (t : KV) (i : Nat) (A : Option Addr) (n c : Nat) : KV := ⟨t.ver, t.next, t.keep, t.quota, A, n, c, t.ses.take i ++ t.ses.drop (i + 1), t.A2, t.n2, t.c2, t.ops, t.A3, t.n3, t.c3, t.sns⟩
def lessOps (t : KV) (i : Nat) (A : Option Addr) (n c : Nat) : KV := ⟨t.ver, t.next, t.keep, t.quota, t.A1, t.n1, t.c1, t.ses, A, n, c, t.ops.take i ++ t.ops.drop (i + 1), t.A3, t.n3, t.c3, t.sns⟩
def lessSns (t : KV) (i : Nat) (A : Option Addr) (n c : Nat) : KV := ⟨t.ver, t.next, t.keep, t.quota, t.A1, t.n1, t.c1, t.ses, t.A2, t.n2, t.c2, t.ops, A, n, c, t.sns.take i ++ t.sns.drop (i + 1)⟩
def moreSns (t : KV) (x : NV) (A : Option Addr) (n c : Nat) : KV := ⟨t.ver, t.next, t.keep, t.quota, t.A1, t.n1, t.c1, t.ses, t.A2, t.n2, t.c2, t.ops, A, n, c, t.sns ++ [x]⟩
section
variable {t : KV} {v : Int} {i : Nat} {A : Option Addr} {n c : Nat}
theorem lessSes_may (h1 : 1 ≤ v) (h3 : v ≤ 3) (h : kmay t v = 0) (hi : i < t.ses.length) : kmay (lessSes t i A n c) v = 0 := by
  obtain ⟨a, b, d, e⟩ := (kmay_ok h1 h3).1 h
  refine (kmay_ok h1 h3).2 ⟨a, ?_, d, e⟩
  unfold sesOk at b ⊢
  rw [take_drop_mid t.ses i hi] at b
  simp only [Bool.and_eq_true] at b ⊢
  refine ⟨risB_less b.1, ?_⟩
  have := b.2
  simp only [lessSes, List.all_append, List.all_cons, Bool.and_eq_true] at this ⊢
  exact ⟨this.1, this.2.2⟩
theorem lessOps_may (h1 : 1 ≤ v) (h3 : v ≤ 3) (h : kmay t v = 0) (hi : i < t.ops.length) : kmay (lessOps t i A n c) v = 0 := by
  obtain ⟨a, b, d, e⟩ := (kmay_ok h1 h3).1 h
  refine (kmay_ok h1 h3).2 ⟨a, b, ?_, e⟩
  unfold opsOk at d ⊢
  rw [take_drop_mid t.ops i hi] at d
  simp only [Bool.and_eq_true] at d ⊢
  refine ⟨risB_less d.1, ?_⟩
  have := d.2
  simp only [lessOps, List.all_append, List.all_cons, Bool.and_eq_true] at this ⊢
  exact ⟨this.1, this.2.2⟩
theorem lessSns_may (h1 : 1 ≤ v) (h3 : v ≤ 3) (h : kmay t v = 0) (hi : i < t.sns.length) : kmay (lessSns t i A n c) v = 0 := by
  obtain ⟨a, b, d, e⟩ := (kmay_ok h1 h3).1 h
  refine (kmay_ok h1 h3).2 ⟨a, b, d, ?_⟩
  obtain ⟨y1, y2, y3⟩ := snsB_iff.1 e
  refine snsB_iff.2 ⟨?_, ?_, ?_⟩
  · unfold lessSns; simp only [List.length_append, List.length_take, List.length_drop]; omega
  · rw [take_drop_mid t.sns i hi] at y2; exact risB_less y2
  · intro f hf
    refine y3 f ?_
    rcases List.mem_append.1 hf with hf | hf
    · exact List.mem_of_mem_take hf
    · exact List.mem_of_mem_drop hf
theorem moreSns_may (h1 : 1 ≤ v) (h3 : v ≤ 3) (x : NV) (hx : x ∈ t.sns) : kmay (moreSns t x A n c) v = 6 := by
  unfold kmay
  rw [if_neg (by rw [inI_t h1 h3]; simp)]
  have : snsB v (moreSns t x A n c).next (moreSns t x A n c).sns = false := by
    by_cases hc : snsB v (moreSns t x A n c).next (moreSns t x A n c).sns = true
    · exfalso
      obtain ⟨_, y2, _⟩ := snsB_iff.1 hc
      have := risB_last y2 x hx
      omega
    · simpa using hc
  rw [this, Bool.and_false]; rfl
end
end Go.Proofs.Ytiildgoaiookhaa

/- The walk of forms.all: what records may have. -/
namespace Go.Proofs.Ytiildgoaiookhaa
open Go.RowKit

set_option maxRecDepth 100000 in
theorem forms_number (num since : Int) (w : World) : Calls Try.prog 131 #[.int .i64 num, .int .i64 since] w fun e w' => e = .returned (.agg #[.int .i64 num, .int .i64 0, .int .i64 since, .bool false, .bool false]) ∧ Ext w w' := by
  go_enter Try.func131, Try.ntmps131
  go_wp2
  refine bodyPost_ret (v := .agg #[.int .i64 num, .int .i64 0, .int .i64 since, .bool false, .bool false]) (by simp [results, Try.results131, go_sem]) rfl ⟨rfl, ?_⟩
  repeat (refine Ext.setCell ?_ (by simp) _)
  exact (Ext.refl w).alloc _

set_option maxRecDepth 100000 in
theorem forms_bytes (num since : Int) (w : World) : Calls Try.prog 132 #[.int .i64 num, .int .i64 since] w fun e w' => e = .returned (.agg #[.int .i64 num, .int .i64 2, .int .i64 since, .bool false, .bool false]) ∧ Ext w w' := by
  go_enter Try.func132, Try.ntmps132
  go_wp2
  refine bodyPost_ret (v := .agg #[.int .i64 num, .int .i64 2, .int .i64 since, .bool false, .bool false]) (by simp [results, Try.results132, go_sem]) rfl ⟨rfl, ?_⟩
  repeat (refine Ext.setCell ?_ (by simp) _)
  exact (Ext.refl w).alloc _

set_option maxRecDepth 100000 in
theorem forms_need (a b c : Int) (d e : Bool) (w : World) : Calls Try.prog 133 #[.agg #[.int .i64 a, .int .i64 b, .int .i64 c, .bool d, .bool e]] w fun r w' => r = .returned (.agg #[.int .i64 a, .int .i64 b, .int .i64 c, .bool true, .bool e]) ∧ Ext w w' := by
  go_enter Try.func133, Try.ntmps133
  go_wp2
  refine bodyPost_ret (v := .agg #[.int .i64 a, .int .i64 b, .int .i64 c, .bool true, .bool e]) (by simp [results, Try.results133, go_sem]) rfl ⟨rfl, ?_⟩
  repeat (refine Ext.setCell ?_ (by simp) _)
  exact ((Ext.refl w).alloc _).alloc _

set_option maxRecDepth 100000 in
theorem forms_many (a b c : Int) (d e : Bool) (w : World) : Calls Try.prog 134 #[.agg #[.int .i64 a, .int .i64 b, .int .i64 c, .bool d, .bool e]] w fun r w' => r = .returned (.agg #[.int .i64 a, .int .i64 b, .int .i64 c, .bool d, .bool true]) ∧ Ext w w' := by
  go_enter Try.func134, Try.ntmps134
  go_wp2
  refine bodyPost_ret (v := .agg #[.int .i64 a, .int .i64 b, .int .i64 c, .bool d, .bool true]) (by simp [results, Try.results134, go_sem]) rfl ⟨rfl, ?_⟩
  repeat (refine Ext.setCell ?_ (by simp) _)
  exact ((Ext.refl w).alloc _).alloc _

set_option maxRecDepth 100000 in
set_option maxHeartbeats 3200000 in
theorem forms_all (kind : Int) (w : World) : Calls Try.prog 127 #[.int .i64 kind] w fun e w' => ∃ v, e = .returned v ∧ w'.ownsRow w.heap.size 136 5 v (formOf kind).length (specOf (formOf kind)) ∧ Ext w w' := by
  have hI := MapIs.made 136 w
  have ZV : Hid (∀ w, (zeroValue 132).run Try.prog w = .ok (.slice none 0 0) w) := Lib.hid (fun w => by kernel_rfl)
  go_enter Try.func127, Try.ntmps127
  simp only [List.append_eq, List.cons_append, List.nil_append]
  go_wp2_with (refine wpList_makeMap (by rfl) (by rfl) ?_; intro ops R hR; have HR := Lib.hid hR; clear hR)
  have hR := HR.out
  clear HR
  subst hR
  refine wpList_hide 20 ?_
  intro ops R hR
  have HR := Lib.hid hR; clear hR
  simp only [List.take_succ_cons, List.take_zero, List.cons_append, List.nil_append]
  go_wp2_with (first
    | (refine wpList_named 131 (by rfl) ?_)
    | (refine wpList_named 132 (by rfl) ?_)
    | (refine wpList_named 133 (by rfl) ?_)
    | (refine wpList_named 134 (by rfl) ?_)
    | (go_at_call 131; refine (forms_number _ _ _).mono ?_; rintro e w9 ⟨rfl, x9⟩; replace hI := hI.call x9; clear x9)
    | (go_at_call 132; refine (forms_bytes _ _ _).mono ?_; rintro e w9 ⟨rfl, x9⟩; replace hI := hI.call x9; clear x9)
    | (go_at_call 133; refine (forms_need _ _ _ _ _ _).mono ?_; rintro e w9 ⟨rfl, x9⟩; replace hI := hI.call x9; clear x9)
    | (go_at_call 134; refine (forms_many _ _ _ _ _ _).mono ?_; rintro e w9 ⟨rfl, x9⟩; replace hI := hI.call x9; clear x9)
    | (refine wpList_insert Try.underlying158 Try.underlying3 hI 1 [nN 1, nS 2 1, nS 3 1, nS 4 1, nS 5 1, nS 6 1, bS 7 1, bS 8 3] _ (by rfl) (by decide) 8 (by rfl) (by rfl) _ _ _ (by rfl) (by rfl) (by rfl) (by rfl) ?_; clear hI; intro w9 hI))
  have hR := HR.out
  clear HR
  simp only [List.drop_succ_cons, List.drop_zero] at hR
  subst hR
  refine wpList_hide 18 ?_
  intro ops R hR
  have HR := Lib.hid hR; clear hR
  simp only [List.take_succ_cons, List.take_zero, List.cons_append, List.nil_append]
  go_wp2_with (first
    | (refine wpList_named 131 (by rfl) ?_)
    | (refine wpList_named 132 (by rfl) ?_)
    | (refine wpList_named 133 (by rfl) ?_)
    | (refine wpList_named 134 (by rfl) ?_)
    | (go_at_call 131; refine (forms_number _ _ _).mono ?_; rintro e w9 ⟨rfl, x9⟩; replace hI := hI.call x9; clear x9)
    | (go_at_call 132; refine (forms_bytes _ _ _).mono ?_; rintro e w9 ⟨rfl, x9⟩; replace hI := hI.call x9; clear x9)
    | (go_at_call 133; refine (forms_need _ _ _ _ _ _).mono ?_; rintro e w9 ⟨rfl, x9⟩; replace hI := hI.call x9; clear x9)
    | (go_at_call 134; refine (forms_many _ _ _ _ _ _).mono ?_; rintro e w9 ⟨rfl, x9⟩; replace hI := hI.call x9; clear x9)
    | (refine wpList_insert Try.underlying158 Try.underlying3 hI 2 [nN 1, nN 2, ⟨3, 2, 1, true, false⟩, nS 4 2, bS 5 3] _ (by rfl) (by decide) 5 (by rfl) (by rfl) _ _ _ (by rfl) (by rfl) (by rfl) (by rfl) ?_; clear hI; intro w9 hI))
  have hR := HR.out
  clear HR
  simp only [List.drop_succ_cons, List.drop_zero] at hR
  subst hR
  refine wpList_hide 10 ?_
  intro ops R hR
  have HR := Lib.hid hR; clear hR
  simp only [List.take_succ_cons, List.take_zero, List.cons_append, List.nil_append]
  go_wp2_with (first
    | (refine wpList_named 131 (by rfl) ?_)
    | (refine wpList_named 132 (by rfl) ?_)
    | (refine wpList_named 133 (by rfl) ?_)
    | (refine wpList_named 134 (by rfl) ?_)
    | (go_at_call 131; refine (forms_number _ _ _).mono ?_; rintro e w9 ⟨rfl, x9⟩; replace hI := hI.call x9; clear x9)
    | (go_at_call 132; refine (forms_bytes _ _ _).mono ?_; rintro e w9 ⟨rfl, x9⟩; replace hI := hI.call x9; clear x9)
    | (go_at_call 133; refine (forms_need _ _ _ _ _ _).mono ?_; rintro e w9 ⟨rfl, x9⟩; replace hI := hI.call x9; clear x9)
    | (go_at_call 134; refine (forms_many _ _ _ _ _ _).mono ?_; rintro e w9 ⟨rfl, x9⟩; replace hI := hI.call x9; clear x9)
    | (refine wpList_insert Try.underlying158 Try.underlying3 hI 3 [nN 1, nN 2] _ (by rfl) (by decide) 2 (by rfl) (by rfl) _ _ _ (by rfl) (by rfl) (by rfl) (by rfl) ?_; clear hI; intro w9 hI))
  have hR := HR.out
  clear HR
  simp only [List.drop_succ_cons, List.drop_zero] at hR
  subst hR
  refine wpList_hide 12 ?_
  intro ops R hR
  have HR := Lib.hid hR; clear hR
  simp only [List.take_succ_cons, List.take_zero, List.cons_append, List.nil_append]
  go_wp2_with (first
    | (refine wpList_named 131 (by rfl) ?_)
    | (refine wpList_named 132 (by rfl) ?_)
    | (refine wpList_named 133 (by rfl) ?_)
    | (refine wpList_named 134 (by rfl) ?_)
    | (go_at_call 131; refine (forms_number _ _ _).mono ?_; rintro e w9 ⟨rfl, x9⟩; replace hI := hI.call x9; clear x9)
    | (go_at_call 132; refine (forms_bytes _ _ _).mono ?_; rintro e w9 ⟨rfl, x9⟩; replace hI := hI.call x9; clear x9)
    | (go_at_call 133; refine (forms_need _ _ _ _ _ _).mono ?_; rintro e w9 ⟨rfl, x9⟩; replace hI := hI.call x9; clear x9)
    | (go_at_call 134; refine (forms_many _ _ _ _ _ _).mono ?_; rintro e w9 ⟨rfl, x9⟩; replace hI := hI.call x9; clear x9)
    | (refine wpList_insert Try.underlying158 Try.underlying3 hI 4 [nN 1, nS 2 1, nS 3 1, nS 4 1] _ (by rfl) (by decide) 4 (by rfl) (by rfl) _ _ _ (by rfl) (by rfl) (by rfl) (by rfl) ?_; clear hI; intro w9 hI))
  have hR := HR.out
  clear HR
  simp only [List.drop_succ_cons, List.drop_zero] at hR
  subst hR
  refine wpList_hide 26 ?_
  intro ops R hR
  have HR := Lib.hid hR; clear hR
  simp only [List.take_succ_cons, List.take_zero, List.cons_append, List.nil_append]
  go_wp2_with (first
    | (refine wpList_named 131 (by rfl) ?_)
    | (refine wpList_named 132 (by rfl) ?_)
    | (refine wpList_named 133 (by rfl) ?_)
    | (refine wpList_named 134 (by rfl) ?_)
    | (go_at_call 131; refine (forms_number _ _ _).mono ?_; rintro e w9 ⟨rfl, x9⟩; replace hI := hI.call x9; clear x9)
    | (go_at_call 132; refine (forms_bytes _ _ _).mono ?_; rintro e w9 ⟨rfl, x9⟩; replace hI := hI.call x9; clear x9)
    | (go_at_call 133; refine (forms_need _ _ _ _ _ _).mono ?_; rintro e w9 ⟨rfl, x9⟩; replace hI := hI.call x9; clear x9)
    | (go_at_call 134; refine (forms_many _ _ _ _ _ _).mono ?_; rintro e w9 ⟨rfl, x9⟩; replace hI := hI.call x9; clear x9)
    | (refine wpList_insert Try.underlying158 Try.underlying3 hI 5 [nN 1, nN 2, nS 3 1, bM 4, bM 5, bM 6, nS 7 3] _ (by rfl) (by decide) 7 (by rfl) (by rfl) _ _ _ (by rfl) (by rfl) (by rfl) (by rfl) ?_; clear hI; intro w9 hI))
  have hR := HR.out
  clear HR
  simp only [List.drop_succ_cons, List.drop_zero] at hR
  subst hR
  refine wpList_hide 32 ?_
  intro ops R hR
  have HR := Lib.hid hR; clear hR
  simp only [List.take_succ_cons, List.take_zero, List.cons_append, List.nil_append]
  go_wp2_with (first
    | (refine wpList_named 131 (by rfl) ?_)
    | (refine wpList_named 132 (by rfl) ?_)
    | (refine wpList_named 133 (by rfl) ?_)
    | (refine wpList_named 134 (by rfl) ?_)
    | (go_at_call 131; refine (forms_number _ _ _).mono ?_; rintro e w9 ⟨rfl, x9⟩; replace hI := hI.call x9; clear x9)
    | (go_at_call 132; refine (forms_bytes _ _ _).mono ?_; rintro e w9 ⟨rfl, x9⟩; replace hI := hI.call x9; clear x9)
    | (go_at_call 133; refine (forms_need _ _ _ _ _ _).mono ?_; rintro e w9 ⟨rfl, x9⟩; replace hI := hI.call x9; clear x9)
    | (go_at_call 134; refine (forms_many _ _ _ _ _ _).mono ?_; rintro e w9 ⟨rfl, x9⟩; replace hI := hI.call x9; clear x9)
    | (refine wpList_insert Try.underlying158 Try.underlying3 hI 6 [nN 1, nN 2, nN 3, nN 4, nS 5 1, nS 6 1, nS 7 1, nS 8 1, nS 9 1, bM 10] _ (by rfl) (by decide) 10 (by rfl) (by rfl) _ _ _ (by rfl) (by rfl) (by rfl) (by rfl) ?_; clear hI; intro w9 hI))
  have hR := HR.out
  clear HR
  simp only [List.drop_succ_cons, List.drop_zero] at hR
  subst hR
  refine wpList_hide 8 ?_
  intro ops R hR
  have HR := Lib.hid hR; clear hR
  simp only [List.take_succ_cons, List.take_zero, List.cons_append, List.nil_append]
  go_wp2_with (first
    | (refine wpList_named 131 (by rfl) ?_)
    | (refine wpList_named 132 (by rfl) ?_)
    | (refine wpList_named 133 (by rfl) ?_)
    | (refine wpList_named 134 (by rfl) ?_)
    | (go_at_call 131; refine (forms_number _ _ _).mono ?_; rintro e w9 ⟨rfl, x9⟩; replace hI := hI.call x9; clear x9)
    | (go_at_call 132; refine (forms_bytes _ _ _).mono ?_; rintro e w9 ⟨rfl, x9⟩; replace hI := hI.call x9; clear x9)
    | (go_at_call 133; refine (forms_need _ _ _ _ _ _).mono ?_; rintro e w9 ⟨rfl, x9⟩; replace hI := hI.call x9; clear x9)
    | (go_at_call 134; refine (forms_many _ _ _ _ _ _).mono ?_; rintro e w9 ⟨rfl, x9⟩; replace hI := hI.call x9; clear x9)
    | (refine wpList_insert Try.underlying158 Try.underlying3 hI 7 [nN 1, bS 2 1] _ (by rfl) (by decide) 2 (by rfl) (by rfl) _ _ _ (by rfl) (by rfl) (by rfl) (by rfl) ?_; clear hI; intro w9 hI))
  have hR := HR.out
  clear HR
  simp only [List.drop_succ_cons, List.drop_zero] at hR
  subst hR
  go_wp2_with (refine wpList_look Try.underlying158 Try.underlying3 ZV.out hI (by decide) kind (by rfl) _ _ (by rfl) (by rfl) (by rfl) ?_; intro v hv)
  go_ret
  exact ⟨v, rfl, hv, hI.ext⟩
end Go.Proofs.Ytiildgoaiookhaa

/- The walks of forms.Specs and forms.Top. -/
namespace Go.Proofs.Ytiildgoaiookhaa
open Go.RowKit

theorem specT : SliceT Try.prog 132 136 5 32 := .mk' Try.underlying132 (z := .agg #[.int .i64 0, .int .i64 0, .int .i64 0, .bool false, .bool false]) (by kernel_rfl) rfl
theorem scells_one (a b c : Int) (d e : Bool) : ∀ u ∈ [Value.int .i64 a, .int .i64 b, .int .i64 c, .bool d, .bool e], u.oneCell' = true := by
  intro u hu
  simp only [List.mem_cons, List.not_mem_nil, or_false] at hu
  rcases hu with rfl | rfl | rfl | rfl | rfl <;> rfl

theorem filter_snoc {α : Type} (p : α → Bool) (l : List α) (j : Nat) (h : j < l.length) : (l.take (j + 1)).filter p = (l.take j).filter p ++ if p l[j] then [l[j]] else [] := by
  rw [List.take_succ_eq_append_getElem h, List.filter_append]
  congr 1
  simp only [List.filter_cons, List.filter_nil]
theorem topL_snoc (l : List SpV) (j : Nat) (h : j < l.length) : topL (l.take (j + 1)) = max (topL (l.take j)) l[j].num := by
  unfold topL; rw [List.take_succ_eq_append_getElem h, List.foldl_append]; rfl

theorem specL_len (kind v : Int) : (specL kind v).length ≤ 10 := by
  unfold specL; split
  · exact Nat.le_trans (List.length_filter_le _ _) (formOf_len kind)
  · simp
theorem formOf_num (kind : Int) : ∀ s ∈ formOf kind, s.num ≤ 10 := by
  rcases formOf_cases kind with ⟨_, h⟩ | rfl | rfl | rfl | rfl | rfl | rfl | rfl
  · rw [h]; simp
  all_goals decide
theorem specL_num (kind v : Int) : ∀ s ∈ specL kind v, s.num ≤ 10 := by
  unfold specL; split
  · intro s hs; exact formOf_num kind s (List.mem_filter.1 hs).1
  · simp
theorem topL_le {n : Nat} : ∀ (l : List SpV), (∀ s ∈ l, s.num ≤ n) → ∀ a, a ≤ n → l.foldl (fun a s => max a s.num) a ≤ n
  | [], _, a, h => h
  | s :: r, hl, a, h => by
    have := hl s (List.mem_cons_self ..)
    exact topL_le r (fun z hz => hl z (List.mem_cons_of_mem _ hz)) (max a s.num) (by omega)

set_option maxRecDepth 100000 in
set_option maxHeartbeats 800000 in
theorem forms_Specs (kind v : Int) (w : World) : Calls Try.prog 107 #[.int .i64 kind, .int .i64 v] w fun e w' => ∃ V, e = .returned V ∧ w'.ownsRow w.heap.size 136 5 V (specL kind v).length (specOf (specL kind v)) ∧ Ext w w' := by
  by_cases h1 : v < 1
  · rw [show specL kind v = [] by unfold specL; rw [if_neg (by omega)]]
    go_enter Try.func107, Try.ntmps107
    go_wp2
    go_ret
    exact ⟨_, rfl, World.ownsRow_nil _ _ _ _, Ext.refl w⟩
  · by_cases h2 : 3 < v
    · rw [show specL kind v = [] by unfold specL; rw [if_neg (by omega)]]
      go_enter Try.func107, Try.ntmps107
      go_wp2
      go_ret
      exact ⟨_, rfl, World.ownsRow_nil _ _ _ _, Ext.refl w⟩
    · rw [show specL kind v = (formOf kind).filter (fun s => decide ((s.since : Int) ≤ v)) by unfold specL; rw [if_pos (by omega)]]
      have HA := Lib.hid (forms_all kind w)
      have hl := formOf_len kind
      generalize formOf kind = F at *
      go_enter Try.func107, Try.ntmps107
      go_wp2_with fail
      refine HA.out.mono ?_
      rintro e w1 ⟨V, rfl, hown, x1⟩
      obtain ⟨A, c, rfl, _⟩ := own_form hown
      have hS := Ss.of_own hown
      clear hown HA
      generalize hN : F.length = N at *
      have HN := Lib.hid hN; clear hN
      have h0 := World.ownsRow_nil w1 w1.heap.size 136 5
      go_wp2
      go_loopw [5, 17] (fun acc i wr => ∃ j : Nat, i = .int .i64 j ∧ j ≤ N ∧ wr.ownsRow w1.heap.size 136 5 acc ((F.take j).filter (fun s => decide ((s.since : Int) ≤ v))).length (specOf ((F.take j).filter (fun s => decide ((s.since : Int) ≤ v)))) ∧ Ext w1 wr) (fun _ i _ => N - (intOf i).toNat)
      case atStart => exact ⟨0, rfl, by omega, by simpa [specOf] using h0, Ext.refl _⟩
      case round =>
        obtain ⟨j, rfl, hj, hown, hx⟩ := hrel
        by_cases hjn : j < N
        · obtain ⟨b, off, rfl, d0, d1, d2, d3, d4⟩ := (hS.ext hx).at_ hjn
          have hsn := filter_snoc (fun s : SpV => decide ((s.since : Int) ≤ v)) F j (by rw [HN.out]; exact hjn)
          have hle : ((F.take j).filter (fun s => decide ((s.since : Int) ≤ v))).length ≤ j := Nat.le_trans (List.length_filter_le _ _) (List.length_take_le _ _)
          generalize F[j]'(by rw [HN.out]; exact hjn) = f at *
          have Hsn := Lib.hid hsn; clear hsn
          have hszw := hx.size
          by_cases hs : (f.since : Int) ≤ v
          · go_wp2_with (at_builtin; refine wpList_app specT (by omega) _ rfl rfl rfl ((hown.alloc _).alloc _) rfl (rd_at5 _ (.int .i64 f.num) (.int .i64 f.wire) (.int .i64 f.since) (.bool f.need) (.bool f.many) _ _ (by simp)) (scells_one _ _ _ _ _) (by unfold maxLen; omega) (by omega) (by simp; omega) ?_; intro v1 w2 hown1 hg1 hat1)
            go_roundw
            case rel => exact ⟨j + 1, val_int (by omega), by omega, own_to hown1 (Nat.le_refl _) (by rw [Hsn.out]; simp [hs]) (by rw [Hsn.out, specOf_append]; simp [hs, specOf_one, SpV.cells]), Below.app ((hx.alloc _).alloc _) hg1 (by simp; omega) ((hown.alloc _).alloc _) (Nat.le_refl _)⟩
            case measure => simp [intOf]; omega
          · go_wp2
            go_roundw
            case rel => exact ⟨j + 1, val_int (by omega), by omega, own_to (hown.alloc _) (Nat.le_refl _) (by rw [Hsn.out]; simp [hs]) (by rw [Hsn.out, specOf_append]; simp [hs, specOf]), hx.alloc _⟩
            case measure => simp [intOf]; omega
        · obtain rfl : j = N := by omega
          go_wp2
          go_ret
          refine ⟨_, rfl, own_to hown (x1.size) (by rw [List.take_of_length_le (by rw [HN.out]; exact Nat.le_refl _)]) (by rw [List.take_of_length_le (by rw [HN.out]; exact Nat.le_refl _)]), x1.trans hx⟩

set_option maxRecDepth 100000 in
set_option maxHeartbeats 800000 in
theorem forms_Top (kind v : Int) (w : World) : Calls Try.prog 85 #[.int .i64 kind, .int .i64 v] w fun e w' => e = .returned (.int .i64 (topL (specL kind v))) ∧ Ext w w' := by
  have HA := Lib.hid (forms_Specs kind v w)
  have hl := specL_len kind v
  have hm := topL_le (specL kind v) (specL_num kind v)
  generalize specL kind v = F at *
  go_enter Try.func85, Try.ntmps85
  go_wp2_with fail
  refine HA.out.mono ?_
  rintro e w1 ⟨V, rfl, hown, x1⟩
  obtain ⟨A, c, rfl, _⟩ := own_form hown
  have hS := Ss.of_own hown
  clear hown HA hm
  generalize hN : F.length = N at *
  have HN := Lib.hid hN; clear hN
  go_wp2
  go_loopw [5, 12] (fun acc i wr => ∃ j : Nat, i = .int .i64 j ∧ j ≤ N ∧ acc = .int .i64 (topL (F.take j)) ∧ Ext w1 wr) (fun _ i _ => N - (intOf i).toNat)
  case atStart => exact ⟨0, rfl, by omega, rfl, Ext.refl _⟩
  case round =>
    obtain ⟨j, rfl, hj, rfl, hx⟩ := hrel
    by_cases hjn : j < N
    · obtain ⟨b, off, rfl, d0, d1, d2, d3, d4⟩ := (hS.ext hx).at_ hjn
      have hsn := topL_snoc F j (by rw [HN.out]; exact hjn)
      generalize F[j]'(by rw [HN.out]; exact hjn) = f at *
      have Hsn := Lib.hid hsn; clear hsn
      go_wp2
      go_outline
      go_roundw
      case rel => exact ⟨j + 1, val_int (by omega), by omega, by rw [Hsn.out]; exact val_int (by omega), hx.alloc _⟩
      case measure => simp [intOf]; omega
    · obtain rfl : j = N := by omega
      go_wp2
      go_ret
      exact ⟨by rw [List.take_of_length_le (by rw [HN.out]; exact Nat.le_refl _)]; rfl, x1.trans hx⟩
end Go.Proofs.Ytiildgoaiookhaa

/- slices.Clone at the rows of a catalogue. (Printed by wip/tools/stclone.py.) -/
namespace Go.Proofs.Ytiildgoaiookhaa
open Go.RowKit

set_option maxRecDepth 100000 in
set_option maxHeartbeats 400000 in
theorem sess_Clone (A : Option Addr) (n c : Nat) (l : List CV) (w : World) (hb : Ts (size := 4) w A n l) (hn : n ≤ 100000) :
    Calls Try.prog 62 #[.slice A n c] w fun e w' => ∃ v, e = .returned v ∧ w'.ownsRow w.heap.size 45 4 v n (thingsOf l) ∧ Ext w w' := by
  have he := fun w => Lib.run_eql_slice_nil (P := Try.prog) w 22 45 A n c 0 0 Try.underlying22
  rcases A with _ | a
  · have h0 : n = 0 := by
      rcases Nat.eq_zero_or_pos n with h | h
      · exact h
      · obtain ⟨b, off, h', _⟩ := hb.at_ h; cases h'
    subst h0
    have hl : l = [] := List.eq_nil_of_length_eq_zero hb.len
    subst hl
    simp only [Option.isNone_none] at he
    clear hb
    go_enter Try.func62, Try.ntmps62
    go_wp2
    go_ret
    exact ⟨_, rfl, World.ownsRow_nil _ _ _ _, Ext.refl w⟩
  · simp only [Option.isNone_some] at he
    have hemp := own_empty w 45 4
    go_enter Try.func62, Try.ntmps62
    go_wp2_with (at_builtin; refine wpList_app sessT (by omega) _ rfl rfl rfl hemp rfl (hb.rd.alloc _) (thingsOf_cells _) (by unfold maxLen; omega) (by omega) (by simp) ?_; intro v4 w4 hown4 hg4 hat4)
    go_ret
    exact ⟨_, rfl, own_to hown4 (Nat.le_refl _) (by omega) (by simp), Below.app ((Ext.refl w).alloc _) hg4 (by simp) hemp (Nat.le_refl _)⟩

set_option maxRecDepth 100000 in
set_option maxHeartbeats 400000 in
theorem opens_Clone (A : Option Addr) (n c : Nat) (l : List OV) (w : World) (hb : Ts (size := 2) w A n l) (hn : n ≤ 100000) :
    Calls Try.prog 63 #[.slice A n c] w fun e w' => ∃ v, e = .returned v ∧ w'.ownsRow w.heap.size 47 2 v n (thingsOf l) ∧ Ext w w' := by
  have he := fun w => Lib.run_eql_slice_nil (P := Try.prog) w 23 47 A n c 0 0 Try.underlying23
  rcases A with _ | a
  · have h0 : n = 0 := by
      rcases Nat.eq_zero_or_pos n with h | h
      · exact h
      · obtain ⟨b, off, h', _⟩ := hb.at_ h; cases h'
    subst h0
    have hl : l = [] := List.eq_nil_of_length_eq_zero hb.len
    subst hl
    simp only [Option.isNone_none] at he
    clear hb
    go_enter Try.func63, Try.ntmps63
    go_wp2
    go_ret
    exact ⟨_, rfl, World.ownsRow_nil _ _ _ _, Ext.refl w⟩
  · simp only [Option.isNone_some] at he
    have hemp := own_empty w 47 2
    go_enter Try.func63, Try.ntmps63
    go_wp2_with (at_builtin; refine wpList_app opensT (by omega) _ rfl rfl rfl hemp rfl (hb.rd.alloc _) (thingsOf_cells _) (by unfold maxLen; omega) (by omega) (by simp) ?_; intro v4 w4 hown4 hg4 hat4)
    go_ret
    exact ⟨_, rfl, own_to hown4 (Nat.le_refl _) (by omega) (by simp), Below.app ((Ext.refl w).alloc _) hg4 (by simp) hemp (Nat.le_refl _)⟩

set_option maxRecDepth 100000 in
set_option maxHeartbeats 400000 in
theorem snaps_Clone (A : Option Addr) (n c : Nat) (l : List NV) (w : World) (hb : Ts (size := 5) w A n l) (hn : n ≤ 100000) :
    Calls Try.prog 64 #[.slice A n c] w fun e w' => ∃ v, e = .returned v ∧ w'.ownsRow w.heap.size 33 5 v n (thingsOf l) ∧ Ext w w' := by
  have he := fun w => Lib.run_eql_slice_nil (P := Try.prog) w 24 33 A n c 0 0 Try.underlying24
  rcases A with _ | a
  · have h0 : n = 0 := by
      rcases Nat.eq_zero_or_pos n with h | h
      · exact h
      · obtain ⟨b, off, h', _⟩ := hb.at_ h; cases h'
    subst h0
    have hl : l = [] := List.eq_nil_of_length_eq_zero hb.len
    subst hl
    simp only [Option.isNone_none] at he
    clear hb
    go_enter Try.func64, Try.ntmps64
    go_wp2
    go_ret
    exact ⟨_, rfl, World.ownsRow_nil _ _ _ _, Ext.refl w⟩
  · simp only [Option.isNone_some] at he
    have hemp := own_empty w 33 5
    go_enter Try.func64, Try.ntmps64
    go_wp2_with (at_builtin; refine wpList_app snapsT (by omega) _ rfl rfl rfl hemp rfl (hb.rd.alloc _) (thingsOf_cells _) (by unfold maxLen; omega) (by omega) (by simp) ?_; intro v4 w4 hown4 hg4 hat4)
    go_ret
    exact ⟨_, rfl, own_to hown4 (Nat.le_refl _) (by omega) (by simp), Below.app ((Ext.refl w).alloc _) hg4 (by simp) hemp (Nat.le_refl _)⟩

set_option maxRecDepth 100000 in
set_option maxHeartbeats 400000 in
theorem ints_Clone (A : Option Addr) (n c : Nat) (l : List Int) (w : World) (hb : Is w A n l) (hn : n ≤ 100000) :
    Calls Try.prog 65 #[.slice A n c] w fun e w' => ∃ v, e = .returned v ∧ w'.ownsRow w.heap.size 3 1 v n (l.map (Value.int .i64)) ∧ Ext w w' := by
  have he := fun w => Lib.run_eql_slice_nil (P := Try.prog) w 31 3 A n c 0 0 Try.underlying31
  rcases A with _ | a
  · have h0 : n = 0 := by
      rcases Nat.eq_zero_or_pos n with h | h
      · exact h
      · obtain ⟨b, off, h', _⟩ := hb.at_ h; cases h'
    subst h0
    have hl : l = [] := List.eq_nil_of_length_eq_zero hb.len
    subst hl
    simp only [Option.isNone_none] at he
    clear hb
    go_enter Try.func65, Try.ntmps65
    go_wp2
    go_ret
    exact ⟨_, rfl, World.ownsRow_nil _ _ _ _, Ext.refl w⟩
  · simp only [Option.isNone_some] at he
    have hemp := own_empty w 3 1
    go_enter Try.func65, Try.ntmps65
    go_wp2_with (at_builtin; refine wpList_app intsT (by omega) _ rfl rfl rfl hemp rfl (Rd.alloc hb _) (ints_one _) (by unfold maxLen; omega) (by omega) (by simp) ?_; intro v4 w4 hown4 hg4 hat4)
    go_ret
    exact ⟨_, rfl, own_to hown4 (Nat.le_refl _) (by omega) (by simp), Below.app ((Ext.refl w).alloc _) hg4 (by simp) hemp (Nat.le_refl _)⟩
end Go.Proofs.Ytiildgoaiookhaa

/- The walk of less of layer 10's laws. (Turned from that of layer 7's.) -/
namespace Go.Proofs.Ytiildgoaiookhaa
open Go.RowKit

set_option maxRecDepth 100000 in
set_option maxHeartbeats 3200000 in
theorem law10_less (s : KV) (w : World) (hs : s.Ok w) :
    Calls Try.prog 35 #[s.val] w fun e w' => ∃ A c, e = .returned (lessK s A c).val ∧ w'.ownsRow w.heap.size 33 5 (.slice A (min 20 s.n3) c) (min 20 s.n3) (thingsOf (cutSn s.sns)) ∧ Ext w w' := by
  obtain ⟨ver, next, keep, quota, A1, n1, c1, ses, A2, n2, c2, ops, A3, n3, c3, sns⟩ := s
  obtain ⟨u0, u1, u2, u3, t1, le1, cap1, t2, le2, cap2, t3, le3, cap3⟩ := hs
  dsimp only at u0 u1 u2 u3 t1 le1 cap1 t2 le2 cap2 t3 le3 cap3
  unfold KV.val
  dsimp only
  have hn1 : n1 ≤ 9223372036854775807 := by unfold maxLen at cap1; omega
  have hn2 : n2 ≤ 9223372036854775807 := by unfold maxLen at cap2; omega
  have hn3 : n3 ≤ 9223372036854775807 := by unfold maxLen at cap3; omega
  have hl3 := t3.len
  clear t1 t2 u0 u1 u2 u3
  have hB0 := (Blk.new w 26 [.int .i64 ver, .int .i64 next, .int .i64 keep, .int .i64 quota, .slice A1 n1 c1, .slice A2 n2 c2, .slice A3 n3 c3]).alloc (.cells #[.int .i64 0, .int .i64 0, .int .i64 0, .int .i64 0, .slice none 0 0, .slice none 0 0, .slice none 0 0] 26)
  have hB20 := Blk.new (w.alloc (.cells #[.int .i64 ver, .int .i64 next, .int .i64 keep, .int .i64 quota, .slice A1 n1 c1, .slice A2 n2 c2, .slice A3 n3 c3] 26)) 26 [.int .i64 0, .int .i64 0, .int .i64 0, .int .i64 0, .slice none 0 0, .slice none 0 0, .slice none 0 0]
  have hx0 : Ext w ((w.alloc (.cells #[.int .i64 ver, .int .i64 next, .int .i64 keep, .int .i64 quota, .slice A1 n1 c1, .slice A2 n2 c2, .slice A3 n3 c3] 26)).alloc (.cells #[.int .i64 0, .int .i64 0, .int .i64 0, .int .i64 0, .slice none 0 0, .slice none 0 0, .slice none 0 0] 26)) := ((Ext.refl w).alloc _).alloc _
  have hz0 : ((w.alloc (.cells #[.int .i64 ver, .int .i64 next, .int .i64 keep, .int .i64 quota, .slice A1 n1 c1, .slice A2 n2 c2, .slice A3 n3 c3] 26)).alloc (.cells #[.int .i64 0, .int .i64 0, .int .i64 0, .int .i64 0, .slice none 0 0, .slice none 0 0, .slice none 0 0] 26)).heap.size = w.heap.size + 2 := by simp
  rw [show (w.alloc (.cells #[.int .i64 ver, .int .i64 next, .int .i64 keep, .int .i64 quota, .slice A1 n1 c1, .slice A2 n2 c2, .slice A3 n3 c3] 26)).heap.size = w.heap.size + 1 by simp] at hB20
  go_enter Try.func35, Try.ntmps35
  go_upto_if 9 with fail
  generalize ((w.alloc (.cells #[.int .i64 ver, .int .i64 next, .int .i64 keep, .int .i64 quota, .slice A1 n1 c1, .slice A2 n2 c2, .slice A3 n3 c3] 26)).alloc (.cells #[.int .i64 0, .int .i64 0, .int .i64 0, .int .i64 0, .slice none 0 0, .slice none 0 0, .slice none 0 0] 26)) = W0 at *
  go_cut [3] (fun _ wx => Blk wx w.heap.size 26 [.int .i64 ver, .int .i64 next, .int .i64 keep, .int .i64 quota, .slice A1 (min n1 20) c1, .slice A2 n2 c2, .slice A3 n3 c3] ∧ Blk wx (w.heap.size + 1) 26 [.int .i64 0, .int .i64 0, .int .i64 0, .int .i64 0, .slice none 0 0, .slice none 0 0, .slice none 0 0] ∧ Ext w wx ∧ wx.heap.size = w.heap.size + 2)
  case first =>
    by_cases h : 20 < n1
    · have hmin : min n1 20 = 20 := by omega
      have Hmin := Lib.hid hmin
      clear hmin
      have d0 := hB0.cell 0
      have d1 := hB0.cell 1
      have d2 := hB0.cell 2
      have d3 := hB0.cell 3
      have d4 := hB0.cell 4
      have d5 := hB0.cell 5
      have d6 := hB0.cell 6
      simp only [List.getElem?_cons_zero, List.getElem?_cons_succ] at d0 d1 d2 d3 d4 d5 d6
      have f4 := hB0.frozen 4
      go_wp2_with fail
      go_meet
      rw [Hmin.out]
      exact ⟨hB0.set_ 4 _, hB20.far (by simp) _, hx0.setCell (Nat.le_refl _) _, by simpa using hz0⟩
    · have hmin : min n1 20 = n1 := by omega
      have Hmin := Lib.hid hmin
      clear hmin
      go_wp2_with fail
      go_meet
      rw [Hmin.out]
      exact ⟨hB0, hB20, hx0, hz0⟩
  case rest =>
    obtain ⟨hB1, hB21, hx1, hz1⟩ := hcut
    clear hB0 hB20 hx0 hz0
    obtain ⟨W1, rfl⟩ : ∃ W1 : World, W1 = wc := ⟨_, rfl⟩
    have d0 := hB1.cell 0
    have d1 := hB1.cell 1
    have d2 := hB1.cell 2
    have d3 := hB1.cell 3
    have d4 := hB1.cell 4
    have d5 := hB1.cell 5
    have d6 := hB1.cell 6
    simp only [List.getElem?_cons_zero, List.getElem?_cons_succ] at d0 d1 d2 d3 d4 d5 d6
    go_upto_if 17 with fail
    clear d0 d1 d2 d3 d4 d5 d6
    go_cut [3] (fun _ wx => Blk wx w.heap.size 26 [.int .i64 ver, .int .i64 next, .int .i64 keep, .int .i64 quota, .slice A1 (min n1 20) c1, .slice A2 (min n2 20) c2, .slice A3 n3 c3] ∧ Blk wx (w.heap.size + 1) 26 [.int .i64 0, .int .i64 0, .int .i64 0, .int .i64 0, .slice none 0 0, .slice none 0 0, .slice none 0 0] ∧ Ext w wx ∧ wx.heap.size = w.heap.size + 2)
    case first =>
      by_cases h : 20 < n2
      · have hmin : min n2 20 = 20 := by omega
        have Hmin := Lib.hid hmin
        clear hmin
        have d0 := hB1.cell 0
        have d1 := hB1.cell 1
        have d2 := hB1.cell 2
        have d3 := hB1.cell 3
        have d4 := hB1.cell 4
        have d5 := hB1.cell 5
        have d6 := hB1.cell 6
        simp only [List.getElem?_cons_zero, List.getElem?_cons_succ] at d0 d1 d2 d3 d4 d5 d6
        have f5 := hB1.frozen 5
        go_wp2_with fail
        go_meet
        rw [Hmin.out]
        exact ⟨hB1.set_ 5 _, hB21.far (by simp) _, hx1.setCell (Nat.le_refl _) _, by simpa using hz1⟩
      · have hmin : min n2 20 = n2 := by omega
        have Hmin := Lib.hid hmin
        clear hmin
        go_wp2_with fail
        go_meet
        rw [Hmin.out]
        exact ⟨hB1, hB21, hx1, hz1⟩
    case rest =>
      obtain ⟨hB2, hB22, hx2, hz2⟩ := hcut
      clear hB1 hB21 hx1 hz1
      obtain ⟨W2, rfl⟩ : ∃ W2 : World, W2 = wc := ⟨_, rfl⟩
      have h0 := own_empty W2 33 5
      rw [hz2] at h0
      have Hz := Lib.hid hz2
      clear hz2
      go_wp2_with fail
      go_loopw [3, 4] (fun v i wr => ∃ j : Nat, i = .int .i64 j ∧ j ≤ n3 ∧ j ≤ 20 ∧ wr.ownsRow (w.heap.size + 2) 33 5 v j (thingsOf ((cutSn sns).take j)) ∧ Blk wr w.heap.size 26 [.int .i64 ver, .int .i64 next, .int .i64 keep, .int .i64 quota, .slice A1 (min n1 20) c1, .slice A2 (min n2 20) c2, .slice A3 n3 c3] ∧ Blk wr (w.heap.size + 1) 26 [.int .i64 0, .int .i64 0, .int .i64 0, .int .i64 0, .slice none 0 0, .slice none 0 0, .slice none 0 0] ∧ Ext w wr) (fun _ i _ => 20 - (intOf i).toNat)
      case atStart => exact ⟨0, rfl, by omega, by omega, by simpa [thingsOf, Hz.out] using h0, hB2.alloc _, hB22.alloc _, hx2.alloc _⟩
      case round =>
        clear h0 hB2 hB22 hx2
        obtain ⟨j, rfl, hj, hjm, hown, hB, hB2, hx⟩ := hrel
        obtain ⟨v3, rfl⟩ : ∃ v3 : Value, v3 = u3 := ⟨_, rfl⟩
        have d0 := hB.cell 0
        have d1 := hB.cell 1
        have d2 := hB.cell 2
        have d3 := hB.cell 3
        have d4 := hB.cell 4
        have d5 := hB.cell 5
        have d6 := hB.cell 6
        simp only [List.getElem?_cons_zero, List.getElem?_cons_succ] at d0 d1 d2 d3 d4 d5 d6
        clear d0 d1 d2 d3 d4 d5
        have HB := Lib.hid hB
        have HB2 := Lib.hid hB2
        have Hlt := Lib.hid (fun k hk => (hown.lt k hk).1)
        clear hB hB2
        have hszw := HB2.out.lt
        by_cases hlt : j < n3 ∧ j < 20
        · obtain ⟨hjn, hj20⟩ := hlt
          have hjl : j < sns.length := by omega
          obtain ⟨bb, off, rfl, hlt, hc⟩ := (t3.ext hx).at_ hjn
          have hok : NV.Ok sns[j] w := t3.ok sns[j] (List.getElem_mem _)
          have hsn := cutSn_snoc sns j hjl hj20
          generalize sns[j] = f at *
          have c0 : wr.cell? ⟨bb, off + j * 5, none⟩ = some (.int .i64 f.id) := hc 0 (by omega)
          have c1 : wr.cell? ⟨bb, off + j * 5 + 1, none⟩ = some (.int .i64 f.set) := hc 1 (by omega)
          have c2_ : wr.cell? ⟨bb, off + j * 5 + 2, none⟩ = some (.slice f.A f.len f.cap) := hc 2 (by omega)
          have c3_ : wr.cell? ⟨bb, off + j * 5 + 3, none⟩ = some (.bool f.held) := hc 3 (by omega)
          have c4_ : wr.cell? ⟨bb, off + j * 5 + 4, none⟩ = some (.string f.tag) := hc 4 (by omega)
          have hle := hok.le
          have hcm := hok.cap
          have htg := hok.ut
          obtain ⟨a, b, A, ln, cp, ch, hd, tg⟩ := f
          dsimp only at c0 c1 c2_ c3_ c4_ hle hcm htg
          unfold maxLen at hcm htg
          have Hsn := Lib.hid hsn
          clear hsn hc hok Hz
          by_cases h12 : 12 < ln
          · by_cases h40 : 40 < tg.size
            · have Hcut : Hid (cutN ⟨a, b, A, ln, cp, ch, hd, tg⟩ = ⟨a, b, A, 12, cp, ch.take 12, hd, (tg.extract 0 40)⟩) := Lib.hid (by unfold cutN; dsimp only; rw [if_pos h40, show min ln 12 = 12 by omega])
              have hsz40 : 40 < tg.size := by omega
              clear h40
              go_wp2_with (at_builtin; refine wpList_app snapsT (by omega) _ rfl rfl rfl ((hown.alloc _).alloc _) rfl (rd_at5 _ (.int .i64 a) (.int .i64 b) (.slice A 12 cp) (.bool hd) (.string (tg.extract 0 40)) _ _ (by simp)) (ncells_one _ _ _ _ _ _ _) (by unfold maxLen; omega) (by omega) (by simp; omega) ?_; intro v1 w1 hown1 hg1 hat1)
              have hlt' : ∀ k, v3.ownBlock = some k → w.heap.size + 2 ≤ k := fun k hk => (Hlt.out k hk)
              go_roundw
              case rel => exact ⟨j + 1, val_int (by omega), by omega, by omega, own_to hown1 (Nat.le_refl _) rfl (by rw [Hsn.out, thingsOf_append, thingsOf_one, Hcut.out]; rfl), ((HB.out.alloc _).alloc _).grown hg1 (fun e => by have := hlt' _ e.symm; omega), ((HB2.out.alloc _).alloc _).grown hg1 (fun e => by have := hlt' _ e.symm; omega), Below.app ((hx.alloc _).alloc _) hg1 (by simp; omega) ((hown.alloc _).alloc _) (by omega)⟩
              case measure => simp [intOf]; omega
            · have Hcut : Hid (cutN ⟨a, b, A, ln, cp, ch, hd, tg⟩ = ⟨a, b, A, 12, cp, ch.take 12, hd, tg⟩) := Lib.hid (by unfold cutN; dsimp only; rw [if_neg h40, show min ln 12 = 12 by omega])
              have hsz40 : tg.size ≤ 40 := by omega
              clear h40
              go_wp2_with (at_builtin; refine wpList_app snapsT (by omega) _ rfl rfl rfl ((hown.alloc _).alloc _) rfl (rd_at5 _ (.int .i64 a) (.int .i64 b) (.slice A 12 cp) (.bool hd) (.string tg) _ _ (by simp)) (ncells_one _ _ _ _ _ _ _) (by unfold maxLen; omega) (by omega) (by simp; omega) ?_; intro v1 w1 hown1 hg1 hat1)
              have hlt' : ∀ k, v3.ownBlock = some k → w.heap.size + 2 ≤ k := fun k hk => (Hlt.out k hk)
              go_roundw
              case rel => exact ⟨j + 1, val_int (by omega), by omega, by omega, own_to hown1 (Nat.le_refl _) rfl (by rw [Hsn.out, thingsOf_append, thingsOf_one, Hcut.out]; rfl), ((HB.out.alloc _).alloc _).grown hg1 (fun e => by have := hlt' _ e.symm; omega), ((HB2.out.alloc _).alloc _).grown hg1 (fun e => by have := hlt' _ e.symm; omega), Below.app ((hx.alloc _).alloc _) hg1 (by simp; omega) ((hown.alloc _).alloc _) (by omega)⟩
              case measure => simp [intOf]; omega
          · by_cases h40 : 40 < tg.size
            · have Hcut : Hid (cutN ⟨a, b, A, ln, cp, ch, hd, tg⟩ = ⟨a, b, A, ln, cp, ch.take 12, hd, (tg.extract 0 40)⟩) := Lib.hid (by unfold cutN; dsimp only; rw [if_pos h40, show min ln 12 = ln by omega])
              have hsz40 : 40 < tg.size := by omega
              clear h40
              go_wp2_with (at_builtin; refine wpList_app snapsT (by omega) _ rfl rfl rfl ((hown.alloc _).alloc _) rfl (rd_at5 _ (.int .i64 a) (.int .i64 b) (.slice A ln cp) (.bool hd) (.string (tg.extract 0 40)) _ _ (by simp)) (ncells_one _ _ _ _ _ _ _) (by unfold maxLen; omega) (by omega) (by simp; omega) ?_; intro v1 w1 hown1 hg1 hat1)
              have hlt' : ∀ k, v3.ownBlock = some k → w.heap.size + 2 ≤ k := fun k hk => (Hlt.out k hk)
              go_roundw
              case rel => exact ⟨j + 1, val_int (by omega), by omega, by omega, own_to hown1 (Nat.le_refl _) rfl (by rw [Hsn.out, thingsOf_append, thingsOf_one, Hcut.out]; rfl), ((HB.out.alloc _).alloc _).grown hg1 (fun e => by have := hlt' _ e.symm; omega), ((HB2.out.alloc _).alloc _).grown hg1 (fun e => by have := hlt' _ e.symm; omega), Below.app ((hx.alloc _).alloc _) hg1 (by simp; omega) ((hown.alloc _).alloc _) (by omega)⟩
              case measure => simp [intOf]; omega
            · have Hcut : Hid (cutN ⟨a, b, A, ln, cp, ch, hd, tg⟩ = ⟨a, b, A, ln, cp, ch.take 12, hd, tg⟩) := Lib.hid (by unfold cutN; dsimp only; rw [if_neg h40, show min ln 12 = ln by omega])
              have hsz40 : tg.size ≤ 40 := by omega
              clear h40
              go_wp2_with (at_builtin; refine wpList_app snapsT (by omega) _ rfl rfl rfl ((hown.alloc _).alloc _) rfl (rd_at5 _ (.int .i64 a) (.int .i64 b) (.slice A ln cp) (.bool hd) (.string tg) _ _ (by simp)) (ncells_one _ _ _ _ _ _ _) (by unfold maxLen; omega) (by omega) (by simp; omega) ?_; intro v1 w1 hown1 hg1 hat1)
              have hlt' : ∀ k, v3.ownBlock = some k → w.heap.size + 2 ≤ k := fun k hk => (Hlt.out k hk)
              go_roundw
              case rel => exact ⟨j + 1, val_int (by omega), by omega, by omega, own_to hown1 (Nat.le_refl _) rfl (by rw [Hsn.out, thingsOf_append, thingsOf_one, Hcut.out]; rfl), ((HB.out.alloc _).alloc _).grown hg1 (fun e => by have := hlt' _ e.symm; omega), ((HB2.out.alloc _).alloc _).grown hg1 (fun e => by have := hlt' _ e.symm; omega), Below.app ((hx.alloc _).alloc _) hg1 (by simp; omega) ((hown.alloc _).alloc _) (by omega)⟩
              case measure => simp [intOf]; omega
        · have hjm2 : j = min 20 n3 := by omega
          have hown' := own_to (base' := w.heap.size + 2) (ys := thingsOf (cutSn sns)) hown (by omega) rfl (by rw [List.take_of_length_le (by rw [cutSn_len]; omega)])
          obtain ⟨A', c', rfl, hc'⟩ := own_form hown'
          have Hown := Lib.hid hown'
          have HJ := Lib.hid hjm2
          have hcs : j = n3 ∨ j < n3 ∧ j = 20 := by omega
          clear hown hown' hc' hjm2 hlt Hz d6
          have d0 := HB.out.cell 0
          have d1 := HB.out.cell 1
          have d2 := HB.out.cell 2
          have d3 := HB.out.cell 3
          have d4 := HB.out.cell 4
          have d5 := HB.out.cell 5
          have d6 := HB.out.cell 6
          simp only [List.getElem?_cons_zero, List.getElem?_cons_succ] at d0 d1 d2 d3 d4 d5 d6
          have f6 := HB.out.frozen 6
          have g0 := HB2.out.cell 0
          have g1 := HB2.out.cell 1
          have g2 := HB2.out.cell 2
          have g3 := HB2.out.cell 3
          have g4 := HB2.out.cell 4
          have g5 := HB2.out.cell 5
          have g6 := HB2.out.cell 6
          simp only [List.getElem?_cons_zero, List.getElem?_cons_succ] at g0 g1 g2 g3 g4 g5 g6
          have r0 := HB2.out.frozen 0
          have r1 := HB2.out.frozen 1
          have r2 := HB2.out.frozen 2
          have r3 := HB2.out.frozen 3
          have r4 := HB2.out.frozen 4
          have r5 := HB2.out.frozen 5
          have r6 := HB2.out.frozen 6
          clear HB HB2
          rcases hcs with rfl | ⟨hjn, rfl⟩
          · go_wp2
            refine bodyPost_ret (v := .agg #[.int .i64 ver, .int .i64 next, .int .i64 keep, .int .i64 quota, .slice A1 (min n1 20) c1, .slice A2 (min n2 20) c2, .slice A' j c']) (by simp [results, Try.results35, go_sem, g0, g1, g2, g3, g4, g5, g6]) rfl ⟨A', c', ?_, ?_, ?_⟩
            · unfold lessK; dsimp only [KV.val]; rw [← HJ.out]
            · rw [← HJ.out]
              refine own_base (base := w.heap.size + 2) ?_ (by omega)
              repeat (refine own_set ?_ (by simp) _)
              exact Hown.out
            · repeat (refine Ext.setCell ?_ (by simp) _)
              exact hx
          · have t1 : decide ((20 : Int) < (n3 : Int)) = true := dec_t (by omega)
            go_wp2
            refine bodyPost_ret (v := .agg #[.int .i64 ver, .int .i64 next, .int .i64 keep, .int .i64 quota, .slice A1 (min n1 20) c1, .slice A2 (min n2 20) c2, .slice A' 20 c']) (by simp [results, Try.results35, go_sem, g0, g1, g2, g3, g4, g5, g6]) rfl ⟨A', c', ?_, ?_, ?_⟩
            · unfold lessK; dsimp only [KV.val]; rw [← HJ.out]
            · rw [← HJ.out]
              refine own_base (base := w.heap.size + 2) ?_ (by omega)
              repeat (refine own_set ?_ (by simp) _)
              exact Hown.out
            · repeat (refine Ext.setCell ?_ (by simp) _)
              exact hx
end Go.Proofs.Ytiildgoaiookhaa
