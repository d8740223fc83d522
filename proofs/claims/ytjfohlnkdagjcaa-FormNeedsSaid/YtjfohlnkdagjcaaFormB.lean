/- The walks of forms.Specs and forms.Top. -/
import Derived.Test.YtjfohlnkdagjcaaFormA
import Derived.Test.YtjfohlnkdagjcaaField
namespace Go.Proofs.Ytjfohlnkdagjcaa
open Go.RowKit

theorem specT : SliceT Try.prog 56 60 5 32 := .mk' Try.underlying56 (z := .agg #[.int .i64 0, .int .i64 0, .int .i64 0, .bool false, .bool false]) (by kernel_rfl) rfl
theorem scells_one (a b c : Int) (d e : Bool) : ∀ u ∈ [Value.int .i64 a, .int .i64 b, .int .i64 c, .bool d, .bool e], u.oneCell' = true := by
  intro u hu
  simp only [List.mem_cons, List.not_mem_nil, or_false] at hu
  rcases hu with rfl | rfl | rfl | rfl | rfl <;> rfl

theorem filter_snoc {α : Type} (p : α → Bool) (l : List α) (j : Nat) (h : j < l.length) : (l.take (j + 1)).filter p = (l.take j).filter p ++ if p l[j] then [l[j]] else [] := by
  rw [List.take_succ_eq_append_getElem h, List.filter_append]
  congr 1
  simp only [List.filter_cons, List.filter_nil]
theorem topL_snoc (l : List SpV) (j : Nat) (h : j < l.length) : topL (l.take (j + 1)) = max (topL (l.take j)) l[j].num := by
  unfold topL; rw [List.take_succ_eq_append_getElem h, List.foldl_append]; rfl

theorem specL_len (kind v : Int) : (specL kind v).length ≤ 10 := by
  unfold specL; split
  · exact Nat.le_trans (List.length_filter_le _ _) (formOf_len kind)
  · simp
theorem formOf_num (kind : Int) : ∀ s ∈ formOf kind, s.num ≤ 10 := by
  rcases formOf_cases kind with ⟨_, h⟩ | rfl | rfl | rfl | rfl | rfl | rfl | rfl
  · rw [h]; simp
  all_goals decide
theorem specL_num (kind v : Int) : ∀ s ∈ specL kind v, s.num ≤ 10 := by
  unfold specL; split
  · intro s hs; exact formOf_num kind s (List.mem_filter.1 hs).1
  · simp
theorem topL_le {n : Nat} : ∀ (l : List SpV), (∀ s ∈ l, s.num ≤ n) → ∀ a, a ≤ n → l.foldl (fun a s => max a s.num) a ≤ n
  | [], _, a, h => h
  | s :: r, hl, a, h => by
    have := hl s (List.mem_cons_self ..)
    exact topL_le r (fun z hz => hl z (List.mem_cons_of_mem _ hz)) (max a s.num) (by omega)

set_option maxRecDepth 100000 in
set_option maxHeartbeats 800000 in
theorem forms_Specs (kind v : Int) (w : World) : Calls Try.prog 40 #[.int .i64 kind, .int .i64 v] w fun e w' => ∃ V, e = .returned V ∧ w'.ownsRow w.heap.size 60 5 V (specL kind v).length (specOf (specL kind v)) ∧ Ext w w' := by
  by_cases h1 : v < 1
  · rw [show specL kind v = [] by unfold specL; rw [if_neg (by omega)]]
    go_enter Try.func40, Try.ntmps40
    go_wp2
    go_ret
    exact ⟨_, rfl, World.ownsRow_nil _ _ _ _, Ext.refl w⟩
  · by_cases h2 : 3 < v
    · rw [show specL kind v = [] by unfold specL; rw [if_neg (by omega)]]
      go_enter Try.func40, Try.ntmps40
      go_wp2
      go_ret
      exact ⟨_, rfl, World.ownsRow_nil _ _ _ _, Ext.refl w⟩
    · rw [show specL kind v = (formOf kind).filter (fun s => decide ((s.since : Int) ≤ v)) by unfold specL; rw [if_pos (by omega)]]
      have HA := Lib.hid (forms_all kind w)
      have hl := formOf_len kind
      generalize formOf kind = F at *
      go_enter Try.func40, Try.ntmps40
      go_wp2_with fail
      refine HA.out.mono ?_
      rintro e w1 ⟨V, rfl, hown, x1⟩
      obtain ⟨A, c, rfl, _⟩ := own_form hown
      have hS := Ss.of_own hown
      clear hown HA
      generalize hN : F.length = N at *
      have HN := Lib.hid hN; clear hN
      have h0 := World.ownsRow_nil w1 w1.heap.size 60 5
      go_wp2
      go_loopw [5, 17] (fun acc i wr => ∃ j : Nat, i = .int .i64 j ∧ j ≤ N ∧ wr.ownsRow w1.heap.size 60 5 acc ((F.take j).filter (fun s => decide ((s.since : Int) ≤ v))).length (specOf ((F.take j).filter (fun s => decide ((s.since : Int) ≤ v)))) ∧ Ext w1 wr) (fun _ i _ => N - (intOf i).toNat)
      case atStart => exact ⟨0, rfl, by omega, by simpa [specOf] using h0, Ext.refl _⟩
      case round =>
        obtain ⟨j, rfl, hj, hown, hx⟩ := hrel
        by_cases hjn : j < N
        · obtain ⟨b, off, rfl, d0, d1, d2, d3, d4⟩ := (hS.ext hx).at_ hjn
          have hsn := filter_snoc (fun s : SpV => decide ((s.since : Int) ≤ v)) F j (by rw [HN.out]; exact hjn)
          have hle : ((F.take j).filter (fun s => decide ((s.since : Int) ≤ v))).length ≤ j := Nat.le_trans (List.length_filter_le _ _) (List.length_take_le _ _)
          generalize F[j]'(by rw [HN.out]; exact hjn) = f at *
          have Hsn := Lib.hid hsn; clear hsn
          have hszw := hx.size
          by_cases hs : (f.since : Int) ≤ v
          · go_wp2_with (at_builtin; refine wpList_app specT (by omega) _ rfl rfl rfl ((hown.alloc _).alloc _) rfl (rd_at5 _ (.int .i64 f.num) (.int .i64 f.wire) (.int .i64 f.since) (.bool f.need) (.bool f.many) _ _ (by simp)) (scells_one _ _ _ _ _) (by unfold maxLen; omega) (by omega) (by simp; omega) ?_; intro v1 w2 hown1 hg1 hat1)
            go_roundw
            case rel => exact ⟨j + 1, val_int (by omega), by omega, own_to hown1 (Nat.le_refl _) (by rw [Hsn.out]; simp [hs]) (by rw [Hsn.out, specOf_append]; simp [hs, specOf_one, SpV.cells]), Below.app ((hx.alloc _).alloc _) hg1 (by simp; omega) ((hown.alloc _).alloc _) (Nat.le_refl _)⟩
            case measure => simp [intOf]; omega
          · go_wp2
            go_roundw
            case rel => exact ⟨j + 1, val_int (by omega), by omega, own_to (hown.alloc _) (Nat.le_refl _) (by rw [Hsn.out]; simp [hs]) (by rw [Hsn.out, specOf_append]; simp [hs, specOf]), hx.alloc _⟩
            case measure => simp [intOf]; omega
        · obtain rfl : j = N := by omega
          go_wp2
          go_ret
          refine ⟨_, rfl, own_to hown (x1.size) (by rw [List.take_of_length_le (by rw [HN.out]; exact Nat.le_refl _)]) (by rw [List.take_of_length_le (by rw [HN.out]; exact Nat.le_refl _)]), x1.trans hx⟩

set_option maxRecDepth 100000 in
set_option maxHeartbeats 800000 in
theorem forms_Top (kind v : Int) (w : World) : Calls Try.prog 41 #[.int .i64 kind, .int .i64 v] w fun e w' => e = .returned (.int .i64 (topL (specL kind v))) ∧ Ext w w' := by
  have HA := Lib.hid (forms_Specs kind v w)
  have hl := specL_len kind v
  have hm := topL_le (specL kind v) (specL_num kind v)
  generalize specL kind v = F at *
  go_enter Try.func41, Try.ntmps41
  go_wp2_with fail
  refine HA.out.mono ?_
  rintro e w1 ⟨V, rfl, hown, x1⟩
  obtain ⟨A, c, rfl, _⟩ := own_form hown
  have hS := Ss.of_own hown
  clear hown HA hm
  generalize hN : F.length = N at *
  have HN := Lib.hid hN; clear hN
  go_wp2
  go_loopw [5, 12] (fun acc i wr => ∃ j : Nat, i = .int .i64 j ∧ j ≤ N ∧ acc = .int .i64 (topL (F.take j)) ∧ Ext w1 wr) (fun _ i _ => N - (intOf i).toNat)
  case atStart => exact ⟨0, rfl, by omega, rfl, Ext.refl _⟩
  case round =>
    obtain ⟨j, rfl, hj, rfl, hx⟩ := hrel
    by_cases hjn : j < N
    · obtain ⟨b, off, rfl, d0, d1, d2, d3, d4⟩ := (hS.ext hx).at_ hjn
      have hsn := topL_snoc F j (by rw [HN.out]; exact hjn)
      generalize F[j]'(by rw [HN.out]; exact hjn) = f at *
      have Hsn := Lib.hid hsn; clear hsn
      go_wp2
      go_outline
      go_roundw
      case rel => exact ⟨j + 1, val_int (by omega), by omega, by rw [Hsn.out]; exact val_int (by omega), hx.alloc _⟩
      case measure => simp [intOf]; omega
    · obtain rfl : j = N := by omega
      go_wp2
      go_ret
      exact ⟨by rw [List.take_of_length_le (by rw [HN.out]; exact Nat.le_refl _)]; rfl, x1.trans hx⟩
end Go.Proofs.Ytjfohlnkdagjcaa
