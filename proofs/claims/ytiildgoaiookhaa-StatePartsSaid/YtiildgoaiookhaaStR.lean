/- The walk of coracleref07.snap. (Printed by wip/tools/stsnap.py.) -/
import Derived.Test.YtiildgoaiookhaaStQ
namespace Go.Proofs.Ytiildgoaiookhaa
open Go.RowKit

/-- what the reference says of a snapshot -/
def snR (ver nx : Int) (f : NV) : Bool := rowChB f.ch && (inI f.id 1 nx && (inI f.set 1 8 && ((!f.held || decide (2 ≤ ver)) && (decide (f.tag.size ≤ 16) && (decide (f.tag = ⟨#[]⟩) || decide (3 ≤ ver))))))
theorem tag_ne {s : ByteArray} (h : s ≠ ⟨#[]⟩) : s.toList.isEmpty = false := by
  rw [ByteArray.toList_eq]
  rcases hs : s.data.toList with _ | ⟨a, r⟩
  · exfalso; apply h; apply ByteArray.ext; apply Array.ext'; simpa using hs
  · rfl
set_option maxRecDepth 100000 in
set_option maxHeartbeats 3200000 in
theorem ref07_snap (f : NV) (next nx ver : Int) (b : Bool) (hb : snR ver nx f = b) (w : World) (hf : f.Ok w) (hl : f.len ≤ 1000000) (hnx : IntKind.i64.wrap (next - 1) = nx) :
    Calls Try.prog 57 #[.agg f.cells.toArray, .int .i64 next, .int .i64 ver] w fun e w' => e = .returned (.bool b) ∧ Ext w w' := by
  have hcs := hf.cs
  have htg := hf.ut
  obtain ⟨a, s, A, ln, cp, ch, hd, tg⟩ := f
  unfold NV.cells
  unfold snR at hb
  dsimp only at hb hcs hl htg ⊢
  unfold maxLen at htg
  have hB := Blk.new w 33 [.int .i64 a, .int .i64 s, .slice A ln cp, .bool hd, .string tg]
  have xa : Ext w (w.alloc (.cells #[.int .i64 a, .int .i64 s, .slice A ln cp, .bool hd, .string tg] 33)) := (Ext.refl w).alloc _
  have HR := Lib.hid (ref05_Row A ln cp ch _ (hcs.ext xa) hl)
  have N1 := Lib.hid (fun b hb w => ref07_in a 1 nx b hb w)
  have N2 := Lib.hid (fun b hb w => ref07_in s 1 8 b hb w)
  clear hf hcs
  generalize rowChB ch = b1 at *
  generalize inI a 1 nx = b2 at *
  generalize inI s 1 8 = b3 at *
  rcases b1 with _ | _
  · simp only [Bool.false_and] at hb
    subst hb
    clear N1 N2
    go_enter Try.func57, Try.ntmps57
    go_wp2_with fail
    refine HR.out.mono ?_
    rintro e w1 ⟨rfl, y1⟩
    have hB1 := hB.ext y1
    have d0 := hB1.cell 0
    have d1 := hB1.cell 1
    have d3 := hB1.cell 3
    have d4 := hB1.cell 4
    simp only [List.getElem?_cons_zero, List.getElem?_cons_succ] at d0 d1 d3 d4
    go_wp2
    go_ret
    exact ⟨rfl, xa.trans y1⟩
  rw [Bool.true_and] at hb
  rcases b2 with _ | _
  · simp only [Bool.false_and] at hb
    subst hb
    have M1 := Lib.hid (N1.out false rfl)
    clear N1 N2
    go_enter Try.func57, Try.ntmps57
    go_wp2_with fail
    refine HR.out.mono ?_
    rintro e w1 ⟨rfl, y1⟩
    have hB1 := hB.ext y1
    have d0 := hB1.cell 0
    have d1 := hB1.cell 1
    have d3 := hB1.cell 3
    have d4 := hB1.cell 4
    simp only [List.getElem?_cons_zero, List.getElem?_cons_succ] at d0 d1 d3 d4
    go_wp2_with (first | (go_at_call 56; ((with_reducible refine (M1.out _).mono ?_); rintro e w2 ⟨rfl, rfl⟩)))
    go_ret
    exact ⟨rfl, xa.trans y1⟩
  rw [Bool.true_and] at hb
  have M1 := Lib.hid (N1.out true rfl)
  rcases b3 with _ | _
  · simp only [Bool.false_and] at hb
    subst hb
    have M2 := Lib.hid (N2.out false rfl)
    clear N1 N2
    go_enter Try.func57, Try.ntmps57
    go_wp2_with fail
    refine HR.out.mono ?_
    rintro e w1 ⟨rfl, y1⟩
    have hB1 := hB.ext y1
    have d0 := hB1.cell 0
    have d1 := hB1.cell 1
    have d3 := hB1.cell 3
    have d4 := hB1.cell 4
    simp only [List.getElem?_cons_zero, List.getElem?_cons_succ] at d0 d1 d3 d4
    go_wp2_with (first | (go_at_call 56; ((with_reducible refine (M1.out _).mono ?_); rintro e w2 ⟨rfl, rfl⟩)) | (go_at_call 56; ((with_reducible refine (M2.out _).mono ?_); rintro e w2 ⟨rfl, rfl⟩)))
    go_ret
    exact ⟨rfl, xa.trans y1⟩
  rw [Bool.true_and] at hb
  have M2 := Lib.hid (N2.out true rfl)
  clear N1 N2
  by_cases hv : hd = true ∧ ver < 2
  · obtain ⟨rfl, hv⟩ := hv
    have hv' : decide (2 ≤ ver) = false := dec_f (by omega)
    rw [hv'] at hb
    simp only [Bool.not_true, Bool.or_self, Bool.false_and] at hb
    subst hb
    go_enter Try.func57, Try.ntmps57
    go_wp2_with fail
    refine HR.out.mono ?_
    rintro e w1 ⟨rfl, y1⟩
    have hB1 := hB.ext y1
    have d0 := hB1.cell 0
    have d1 := hB1.cell 1
    have d3 := hB1.cell 3
    have d4 := hB1.cell 4
    simp only [List.getElem?_cons_zero, List.getElem?_cons_succ] at d0 d1 d3 d4
    go_wp2_with (first | (go_at_call 56; ((with_reducible refine (M1.out _).mono ?_); rintro e w2 ⟨rfl, rfl⟩)) | (go_at_call 56; ((with_reducible refine (M2.out _).mono ?_); rintro e w2 ⟨rfl, rfl⟩)))
    go_ret
    exact ⟨rfl, xa.trans y1⟩
  have hg : (!hd || decide (2 ≤ ver)) = true := by
    rcases hd with _ | _
    · rfl
    · rw [dec_t (show 2 ≤ ver by simp at hv; omega)]; rfl
  rw [hg, Bool.true_and] at hb
  have hg2 : hd = false ∨ hd = true ∧ 2 ≤ ver := by
    rcases hd with _ | _
    · exact .inl rfl
    · exact .inr ⟨rfl, by simp at hv; omega⟩
  clear hg hv
  by_cases h16 : tg.size ≤ 16
  case neg =>
    rw [dec_f h16, Bool.false_and] at hb
    subst hb
    have k16 : decide ((tg.size : Int) ≤ 16) = false := dec_f (by omega)
    rcases hg2 with rfl | ⟨rfl, hv⟩
    · go_enter Try.func57, Try.ntmps57
      go_wp2_with fail
      refine HR.out.mono ?_
      rintro e w1 ⟨rfl, y1⟩
      have hB1 := hB.ext y1
      have d0 := hB1.cell 0
      have d1 := hB1.cell 1
      have d3 := hB1.cell 3
      have d4 := hB1.cell 4
      simp only [List.getElem?_cons_zero, List.getElem?_cons_succ] at d0 d1 d3 d4
      go_wp2_with (first | (go_at_call 56; ((with_reducible refine (M1.out _).mono ?_); rintro e w2 ⟨rfl, rfl⟩)) | (go_at_call 56; ((with_reducible refine (M2.out _).mono ?_); rintro e w2 ⟨rfl, rfl⟩)))
      go_ret
      exact ⟨rfl, xa.trans y1⟩
    · have hv' : decide (2 ≤ ver) = true := dec_t hv
      go_enter Try.func57, Try.ntmps57
      go_wp2_with fail
      refine HR.out.mono ?_
      rintro e w1 ⟨rfl, y1⟩
      have hB1 := hB.ext y1
      have d0 := hB1.cell 0
      have d1 := hB1.cell 1
      have d3 := hB1.cell 3
      have d4 := hB1.cell 4
      simp only [List.getElem?_cons_zero, List.getElem?_cons_succ] at d0 d1 d3 d4
      go_wp2_with (first | (go_at_call 56; ((with_reducible refine (M1.out _).mono ?_); rintro e w2 ⟨rfl, rfl⟩)) | (go_at_call 56; ((with_reducible refine (M2.out _).mono ?_); rintro e w2 ⟨rfl, rfl⟩)))
      go_ret
      exact ⟨rfl, xa.trans y1⟩
  rw [dec_t h16, Bool.true_and] at hb
  have k16 : decide ((tg.size : Int) ≤ 16) = true := dec_t (by omega)
  by_cases ht : tg = ⟨#[]⟩
  · rw [dec_t ht, Bool.true_or] at hb
    subst hb
    subst ht
    rcases hg2 with rfl | ⟨rfl, hv⟩
    · go_enter Try.func57, Try.ntmps57
      go_wp2_with fail
      refine HR.out.mono ?_
      rintro e w1 ⟨rfl, y1⟩
      have hB1 := hB.ext y1
      have d0 := hB1.cell 0
      have d1 := hB1.cell 1
      have d3 := hB1.cell 3
      have d4 := hB1.cell 4
      simp only [List.getElem?_cons_zero, List.getElem?_cons_succ] at d0 d1 d3 d4
      go_wp2_with (first | (go_at_call 56; ((with_reducible refine (M1.out _).mono ?_); rintro e w2 ⟨rfl, rfl⟩)) | (go_at_call 56; ((with_reducible refine (M2.out _).mono ?_); rintro e w2 ⟨rfl, rfl⟩)))
      go_ret
      exact ⟨rfl, xa.trans y1⟩
    · have hv' : decide (2 ≤ ver) = true := dec_t hv
      go_enter Try.func57, Try.ntmps57
      go_wp2_with fail
      refine HR.out.mono ?_
      rintro e w1 ⟨rfl, y1⟩
      have hB1 := hB.ext y1
      have d0 := hB1.cell 0
      have d1 := hB1.cell 1
      have d3 := hB1.cell 3
      have d4 := hB1.cell 4
      simp only [List.getElem?_cons_zero, List.getElem?_cons_succ] at d0 d1 d3 d4
      go_wp2_with (first | (go_at_call 56; ((with_reducible refine (M1.out _).mono ?_); rintro e w2 ⟨rfl, rfl⟩)) | (go_at_call 56; ((with_reducible refine (M2.out _).mono ?_); rintro e w2 ⟨rfl, rfl⟩)))
      go_ret
      exact ⟨rfl, xa.trans y1⟩
  rw [dec_f ht, Bool.false_or] at hb
  have hte := tag_ne ht
  clear ht
  by_cases h3 : 3 ≤ ver
  · rw [dec_t h3] at hb
    subst hb
    have h3' : decide (3 ≤ ver) = true := dec_t h3
    have hv' : decide (2 ≤ ver) = true := dec_t (by omega)
    clear hg2
    rcases hd with _ | _
    · go_enter Try.func57, Try.ntmps57
      go_wp2_with fail
      refine HR.out.mono ?_
      rintro e w1 ⟨rfl, y1⟩
      have hB1 := hB.ext y1
      have d0 := hB1.cell 0
      have d1 := hB1.cell 1
      have d3 := hB1.cell 3
      have d4 := hB1.cell 4
      simp only [List.getElem?_cons_zero, List.getElem?_cons_succ] at d0 d1 d3 d4
      go_wp2_with (first | (go_at_call 56; ((with_reducible refine (M1.out _).mono ?_); rintro e w2 ⟨rfl, rfl⟩)) | (go_at_call 56; ((with_reducible refine (M2.out _).mono ?_); rintro e w2 ⟨rfl, rfl⟩)))
      go_ret
      exact ⟨rfl, xa.trans y1⟩
    · go_enter Try.func57, Try.ntmps57
      go_wp2_with fail
      refine HR.out.mono ?_
      rintro e w1 ⟨rfl, y1⟩
      have hB1 := hB.ext y1
      have d0 := hB1.cell 0
      have d1 := hB1.cell 1
      have d3 := hB1.cell 3
      have d4 := hB1.cell 4
      simp only [List.getElem?_cons_zero, List.getElem?_cons_succ] at d0 d1 d3 d4
      go_wp2_with (first | (go_at_call 56; ((with_reducible refine (M1.out _).mono ?_); rintro e w2 ⟨rfl, rfl⟩)) | (go_at_call 56; ((with_reducible refine (M2.out _).mono ?_); rintro e w2 ⟨rfl, rfl⟩)))
      go_ret
      exact ⟨rfl, xa.trans y1⟩
  · rw [dec_f h3] at hb
    subst hb
    have h3' : decide (3 ≤ ver) = false := dec_f h3
    clear h3
    rcases hg2 with rfl | ⟨rfl, hv⟩
    · go_enter Try.func57, Try.ntmps57
      go_wp2_with fail
      refine HR.out.mono ?_
      rintro e w1 ⟨rfl, y1⟩
      have hB1 := hB.ext y1
      have d0 := hB1.cell 0
      have d1 := hB1.cell 1
      have d3 := hB1.cell 3
      have d4 := hB1.cell 4
      simp only [List.getElem?_cons_zero, List.getElem?_cons_succ] at d0 d1 d3 d4
      go_wp2_with (first | (go_at_call 56; ((with_reducible refine (M1.out _).mono ?_); rintro e w2 ⟨rfl, rfl⟩)) | (go_at_call 56; ((with_reducible refine (M2.out _).mono ?_); rintro e w2 ⟨rfl, rfl⟩)))
      go_ret
      exact ⟨rfl, xa.trans y1⟩
    · have hv' : decide (2 ≤ ver) = true := dec_t hv
      go_enter Try.func57, Try.ntmps57
      go_wp2_with fail
      refine HR.out.mono ?_
      rintro e w1 ⟨rfl, y1⟩
      have hB1 := hB.ext y1
      have d0 := hB1.cell 0
      have d1 := hB1.cell 1
      have d3 := hB1.cell 3
      have d4 := hB1.cell 4
      simp only [List.getElem?_cons_zero, List.getElem?_cons_succ] at d0 d1 d3 d4
      go_wp2_with (first | (go_at_call 56; ((with_reducible refine (M1.out _).mono ?_); rintro e w2 ⟨rfl, rfl⟩)) | (go_at_call 56; ((with_reducible refine (M2.out _).mono ?_); rintro e w2 ⟨rfl, rfl⟩)))
      go_ret
      exact ⟨rfl, xa.trans y1⟩
end Go.Proofs.Ytiildgoaiookhaa
