/- The walks of the laws FormAll and FormLater. -/
import Derived.Test.YtjfohlnkdagjcaaChkA
import Derived.Test.YtjfohlnkdagjcaaChkB
import Derived.Test.YtjfohlnkdagjcaaTlvF
namespace Go.Proofs.Ytjfohlnkdagjcaa
open Go.RowKit

/-- at most 60 fields, of 300 bytes each -/
def few4 (l : List FV) : List FV := (l.take 60).map (cutF 300)
theorem few4_len (l : List FV) : (few4 l).length = min 60 l.length := by simp [few4]
theorem few4_snoc (l : List FV) (j : Nat) (h : j < l.length) (h60 : j < 60) : (few4 l).take (j + 1) = (few4 l).take j ++ [cutF 300 l[j]] := by
  have hl : j < (few4 l).length := by rw [few4_len]; omega
  rw [List.take_succ_eq_append_getElem hl]
  congr 2
  simp [few4]
theorem few4_ok {l : List FV} {w : World} (h : ∀ f ∈ l, f.Ok w) : ∀ f ∈ few4 l, f.Ok w := by
  intro f hf
  obtain ⟨g, hg, rfl⟩ := List.mem_map.1 hf
  exact cutF_ok (h g (List.mem_of_mem_take hg))

set_option maxRecDepth 100000 in
set_option maxHeartbeats 1600000 in
theorem law04_few (A : Option Addr) (n c : Nat) (l : List FV) (w : World) (hf : Fs w A n l) (hcm : c ≤ maxLen) (hnc : n ≤ c) :
    Calls Try.prog 46 #[.slice A n c] w fun e w' => ∃ v, e = .returned v ∧ w'.ownsRow w.heap.size 42 4 v (min 60 n) (rowOf (few4 l)) ∧ Ext w w' := by
  have hlen := hf.len
  have hmx : n ≤ 9223372036854775807 := by unfold maxLen at hcm; omega
  clear hcm hnc
  go_enter Try.func46, Try.ntmps46
  go_wp2
  have h0 := own_empty w 42 4
  go_loopw [3, 4] (fun v i wr => ∃ j : Nat, i = .int .i64 j ∧ j ≤ n ∧ j ≤ 60 ∧ wr.ownsRow w.heap.size 42 4 v j (rowOf ((few4 l).take j)) ∧ Ext w wr) (fun _ i _ => 60 - (intOf i).toNat)
  case atStart => exact ⟨0, rfl, by omega, by omega, by simpa [rowOf] using h0, (Ext.refl w).alloc _⟩
  case round =>
    obtain ⟨j, rfl, hj, hj60, hown, hx⟩ := hrel
    by_cases hjn : j < n
    · by_cases hj6 : j < 60
      · obtain ⟨b, off, rfl, d0, d1, d2, d3⟩ := (hf.ext hx).at_ hjn
        have hle := ((hf.ext hx).ok l[j] (List.getElem_mem _)).le
        have hsn := few4_snoc l j (by omega) hj6
        generalize l[j] = f at *
        obtain ⟨num, wire, fn, fA, flen, fcap, fb⟩ := f
        dsimp only at d0 d1 d2 d3 hle
        have Hsn := Lib.hid hsn; clear hsn
        have hszw := hx.size
        by_cases hc : 300 < flen
        · go_wp2_with (at_builtin; refine wpList_app fieldsT (by omega) _ rfl rfl rfl ((hown.alloc _).alloc _) rfl (rd_at4 _ (.int .i64 num) (.int .i64 wire) (.int .u64 fn) (.slice fA 300 fcap) _ _ (by simp)) (fcells_one _ _ _ _ _ _) (by unfold maxLen; omega) (by omega) (by simp; omega) ?_; intro v1 w1 hown1 hg1 hat1)
          go_roundw
          case rel => exact ⟨j + 1, val_int (by omega), by omega, by omega, own_to hown1 (Nat.le_refl _) rfl (by rw [Hsn.out, rowOf_append, rowOf_one]; simp [cutF, hc, FV.cells]), Below.app ((hx.alloc _).alloc _) hg1 (by simp; omega) ((hown.alloc _).alloc _) (Nat.le_refl _)⟩
          case measure => simp [intOf]; omega
        · go_wp2_with (at_builtin; refine wpList_app fieldsT (by omega) _ rfl rfl rfl ((hown.alloc _).alloc _) rfl (rd_at4 _ (.int .i64 num) (.int .i64 wire) (.int .u64 fn) (.slice fA flen fcap) _ _ (by simp)) (fcells_one _ _ _ _ _ _) (by unfold maxLen; omega) (by omega) (by simp; omega) ?_; intro v1 w1 hown1 hg1 hat1)
          go_roundw
          case rel => exact ⟨j + 1, val_int (by omega), by omega, by omega, own_to hown1 (Nat.le_refl _) rfl (by rw [Hsn.out, rowOf_append, rowOf_one]; simp [cutF, hc, FV.cells]), Below.app ((hx.alloc _).alloc _) hg1 (by simp; omega) ((hown.alloc _).alloc _) (Nat.le_refl _)⟩
          case measure => simp [intOf]; omega
      · obtain rfl : 60 = j := by omega
        have t1 : decide ((60 : Int) < (n : Int)) = true := dec_t (by omega)
        go_wp2
        go_ret
        refine ⟨_, rfl, ?_, hx⟩
        exact own_to hown (Nat.le_refl _) (by omega) (by rw [List.take_of_length_le (by rw [few4_len]; omega)])
    · obtain rfl : n = j := by omega
      go_wp2
      go_ret
      refine ⟨_, rfl, ?_, hx⟩
      exact own_to hown (Nat.le_refl _) (by omega) (by rw [List.take_of_length_le (by rw [few4_len]; omega)])

set_option maxRecDepth 100000 in
set_option maxHeartbeats 1600000 in
theorem law_FormAll (kind v : Int) (A : Option Addr) (n c : Nat) (l : List FV) (w : World) (hf : Fs w A n l) (hnc : n ≤ c) (hcm : c ≤ maxLen) :
    Calls Try.prog 15 #[.int .i64 kind, .int .i64 v, .slice A n c] w fun e w' => e = .returned (.bool true) ∧ Ext w w' := by
  have HF := Lib.hid (fun (w' : World) (h : Ext w w') => law04_few A n c l w' (hf.ext h) hcm hnc)
  have HOK := Lib.hid (fun (w' : World) (h : Ext w w') => few4_ok (l := l) (w := w') fun f hf' => (hf.ok f hf').ext h)
  have h60 : min 60 n ≤ 60 := by omega
  have hN10 := specL_len kind v
  have H1 := Lib.hid (fun w => forms_Specs kind v w)
  have H2 := Lib.hid (fun w => ref04_Specs kind v w)
  have H3 := Lib.hid (fun w => forms_Top kind v w)
  have H4 := Lib.hid (fun w => ref04_Top kind v w)
  have H5 := Lib.hid (fun A n c l w h1 h2 => forms_Check kind v A n c l w h1 h2)
  have H6 := Lib.hid (fun A n c l w h1 h2 => ref04_Check kind v A n c l w h1 h2)
  generalize specL kind v = S at *
  generalize min 60 n = m at *
  generalize few4 l = L at *
  clear hf hcm hnc
  go_enter Try.func15, Try.ntmps15
  go_wp2_with fail
  refine (law04_shown _).mono ?_
  rintro e w1 ⟨rfl, x1⟩
  go_wp2_with fail
  refine (H1.out _).mono ?_
  rintro e w2 ⟨V2, rfl, hown2, x2⟩
  obtain ⟨A2, c2, rfl, _⟩ := own_form hown2
  have hS2 := Ss.of_own hown2
  clear hown2
  go_wp2_with fail
  refine (H2.out _).mono ?_
  rintro e w3 ⟨V3, rfl, hown3, x3⟩
  obtain ⟨A3, c3, rfl, _⟩ := own_form hown3
  have hS3 := Ss.of_own hown3
  replace hS2 := hS2.ext x3
  clear hown3
  go_wp2_with fail
  refine (ref04_Same _ _ _ _ _ _ _ hS2 hS3 (by omega)).mono ?_
  rintro e w4 ⟨rfl, x4⟩
  have hx := ((x1.trans x2).trans x3).trans x4
  clear hS2 hS3 x1 x2 x3 x4
  go_wp2_with fail
  refine (H3.out _).mono ?_
  rintro e w5 ⟨rfl, x5⟩
  go_wp2_with fail
  refine (H4.out _).mono ?_
  rintro e w6 ⟨rfl, x6⟩
  replace hx := (hx.trans x5).trans x6
  clear x5 x6
  go_wp2_with fail
  refine (HF.out _ hx).mono ?_
  rintro e w7 ⟨v7, rfl, hown7, x7⟩
  obtain ⟨A7, c7, rfl, _⟩ := own_form hown7
  replace hx := hx.trans x7
  have hf7 : Fs w7 A7 m L := Fs.of_own hown7 (HOK.out _ hx)
  clear hown7 x7
  go_wp2_with fail
  refine (H5.out _ _ _ _ _ hf7 (by omega)).mono ?_
  rintro e w8 ⟨rfl, x8⟩
  replace hx := hx.trans x8
  clear hf7 x8
  go_wp2_with fail
  refine (HF.out _ hx).mono ?_
  rintro e w9 ⟨v9, rfl, hown9, x9⟩
  obtain ⟨A9, c9, rfl, _⟩ := own_form hown9
  replace hx := hx.trans x9
  have hf9 : Fs w9 A9 m L := Fs.of_own hown9 (HOK.out _ hx)
  clear hown9 x9
  go_wp2_with fail
  refine (H6.out _ _ _ _ _ hf9 (by omega)).mono ?_
  rintro e wz ⟨rfl, xz⟩
  replace hx := hx.trans xz
  clear hf9 xz
  go_wp2
  go_ret
  exact ⟨rfl, hx⟩
end Go.Proofs.Ytjfohlnkdagjcaa
