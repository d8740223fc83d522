/- The walk of tlv.Put. -/
import Derived.Test.YtiildgoaiookhaaTlvF
namespace Go.Proofs.Ytiildgoaiookhaa
open Go.RowKit

theorem mayScan_ok : ∀ (p : Option FV) (size : Nat) (l : List FV), mayScan p size l = 0 → (∀ f ∈ l, aloneB f = true ∧ f.len ≤ 16384) ∧ size + fsum l ≤ 16384
  | p, size, [], h => by
    rw [mayScan_nil] at h
    refine ⟨by simp, ?_⟩
    by_cases hs : 16384 < size
    · rw [if_pos hs] at h; cases h
    · simp [fsum]; omega
  | p, size, f :: r, h => by
    rw [mayScan_cons] at h
    by_cases h1 : aloneB f = false
    · rw [if_pos h1] at h; cases h
    · rw [if_neg h1] at h
      by_cases h2 : fallsB p f = true
      · rw [if_pos h2] at h; cases h
      · rw [if_neg h2] at h
        by_cases h3 : 16384 < f.len
        · rw [if_pos h3] at h; cases h
        · rw [if_neg h3] at h
          obtain ⟨g1, g2⟩ := mayScan_ok (some f) _ r h
          refine ⟨?_, ?_⟩
          · intro x hx
            rcases List.mem_cons.1 hx with rfl | hx
            · exact ⟨by simpa using h1, by omega⟩
            · exact g1 x hx
          · simp only [fsum, List.map_cons, List.sum_cons] at g2 ⊢; omega
theorem fmay_ok {l : List FV} (h : fmay l = 0) : (∀ f ∈ l, aloneB f = true ∧ f.len ≤ 16384) ∧ fsum l ≤ 16384 := by
  have := mayScan_ok none 0 l h
  exact ⟨this.1, by omega⟩

/-- the bytes of a field that may be; of a row -/
def fbytes (f : FV) : List UInt8 := fput f.num.toNat f.wire.toNat f.n f.b
def rput (l : List FV) : List UInt8 := (l.map fbytes).flatten
theorem rput_len (l : List FV) : (rput l).length = fsum l := by
  simp only [rput, List.length_flatten, List.map_map, fsum]; rfl
theorem rput_snoc (l : List FV) (j : Nat) (h : j < l.length) : rput (l.take (j + 1)) = rput (l.take j) ++ fbytes l[j] := by
  unfold rput; rw [List.take_succ_eq_append_getElem h, List.map_append, List.flatten_append]; simp
theorem fsum_take (l : List FV) (j : Nat) : fsum (l.take j) ≤ fsum l := by
  have : fsum l = fsum (l.take j) + fsum (l.drop j) := by
    unfold fsum; rw [← List.sum_append, ← List.map_append, List.take_append_drop]
  omega

set_option maxRecDepth 100000 in
set_option maxHeartbeats 800000 in
theorem tlv_Put_no (A : Option Addr) (n c : Nat) (l : List FV) (w : World) (hf : Fs w A n l) (hn : n ≤ 20000) (hno : fmay l ≠ 0) :
    Calls Try.prog 70 #[.slice A n c] w fun e w' => e = .returned (.tuple #[.slice none 0 0, .int .i64 (fmay l)]) ∧ Ext w w' := by
  have hb := bne_t (show ((fmay l : Nat) : Int) ≠ 0 by omega)
  have HM := Lib.hid (tlv_May A n c l w hf hn)
  generalize fmay l = E at *
  clear hno hf
  go_enter Try.func70, Try.ntmps70
  go_wp2_with fail
  refine HM.out.mono ?_
  rintro e w1 ⟨rfl, x1⟩
  go_wp2
  go_ret2
  exact ⟨rfl, x1⟩

set_option maxRecDepth 100000 in
set_option maxHeartbeats 800000 in
theorem tlv_Put_ok (A : Option Addr) (n c : Nat) (l : List FV) (w : World) (hf : Fs w A n l) (hn : n ≤ 20000) (hno : fmay l = 0) :
    Calls Try.prog 70 #[.slice A n c] w fun e w' => ∃ v, e = .returned (.tuple #[v, .int .i64 0]) ∧ w'.ownsRow w.heap.size 5 1 v (rput l).length ((rput l).map bv) ∧ Ext w w' := by
  have hlen := hf.len
  obtain ⟨hall, hsum⟩ := fmay_ok hno
  have hM := tlv_May A n c l w hf hn
  rw [hno] at hM
  have HM := Lib.hid hM; clear hM hno
  have Hall := Lib.hid hall; clear hall
  go_enter Try.func70, Try.ntmps70
  go_wp2_with fail
  refine HM.out.mono ?_
  rintro e w1 ⟨rfl, x1⟩
  have h0 := World.ownsRow_nil w1 w.heap.size 5 1
  go_wp2
  go_loopw [5, 15] (fun v i wr => ∃ j : Nat, i = .int .i64 j ∧ j ≤ n ∧ wr.ownsRow w.heap.size 5 1 v (rput (l.take j)).length ((rput (l.take j)).map bv) ∧ Ext w wr) (fun _ i _ => n - (intOf i).toNat)
  case atStart => exact ⟨0, rfl, by omega, by simpa [rput] using h0, x1⟩
  case round =>
    obtain ⟨j, rfl, hj, hown, hx⟩ := hrel
    by_cases hjn : j < n
    · obtain ⟨b, off, rfl, d0, d1, d2, d3⟩ := (hf.ext hx).at_ hjn
      have hok := (hf.ext hx).ok l[j] (List.getElem_mem _)
      have hal := Hall.out l[j] (List.getElem_mem _)
      have hsn := rput_snoc l j (by omega)
      have hle : (rput (l.take j)).length ≤ 16384 := by rw [rput_len]; have := fsum_take l j; omega
      have hfs := fsize_le l[j] hal.1 hok hal.2
      have x2 := (Ext.refl wr).alloc (.cells #[.int .i64 l[j].num, .int .i64 l[j].wire, .int .u64 l[j].n, .slice l[j].A l[j].len l[j].cap] 96)
      have HP := Lib.hid (tlv_put_f l[j] _ hal.1 (hok.ext x2) hal.2)
      have hszw := hx.size
      change Hid (Calls _ _ _ _ fun e w' => ∃ v, e = .returned v ∧ w'.ownsRow _ 5 1 v (fsize l[j]) ((fbytes l[j]).map bv) ∧ _) at HP
      have hbl : (fbytes l[j]).length = fsize l[j] := rfl
      generalize l[j] = f at *
      generalize rput (l.take j) = R at *
      have Hsn := Lib.hid hsn; clear hsn
      have Hbl := Lib.hid hbl; clear hbl
      clear hal hok
      go_wp2_with fail
      refine HP.out.mono ?_
      rintro e w2 ⟨v2, rfl, hown2, y2⟩
      obtain ⟨A2, k2, rfl, _⟩ := own_form hown2
      have b2 := Rd.of_own hown2
      have y02 := x2.trans y2
      have hown' := own_ext hown y02
      have hz2 := y02.size
      go_wp2_with (at_builtin; refine wpList_app bytesT (by omega) _ rfl rfl rfl hown' rfl b2 (bvs_one _) (by unfold maxLen; omega) (by omega) (by omega) ?_; intro v3 w3 hown3 hg3 hat3)
      go_roundw
      case rel => exact ⟨j + 1, val_int (by omega), by omega, own_to hown3 (Nat.le_refl _) (by rw [Hsn.out, List.length_append, Hbl.out]) (by rw [Hsn.out, List.map_append]), Below.app (hx.trans y02) hg3 (by omega) hown' (Nat.le_refl _)⟩
      case measure => simp [intOf]; omega
    · obtain rfl : j = n := by omega
      rw [List.take_of_length_le (by omega)] at hown
      go_wp2
      go_ret2
      exact ⟨_, rfl, hown, hx⟩
end Go.Proofs.Ytiildgoaiookhaa
