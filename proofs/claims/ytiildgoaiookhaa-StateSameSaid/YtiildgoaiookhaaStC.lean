/- The walks of a row of chunks: command.row, command.Chunks, coracleref05.Row. -/
import Derived.Test.YtiildgoaiookhaaStK
import Derived.Test.YtiildgoaiookhaaVarintW
namespace Go.Proofs.Ytiildgoaiookhaa
open Go.RowKit

/-- do numbers rise, each from a + 1 to 64 -/
def upB : Int → List Int → Bool
  | _, [] => true
  | a, n :: r => (decide (a < n) && decide (n ≤ 64)) && upB n r
/-- are numbers a row of chunks -/
def rowChB (l : List Int) : Bool := (decide (1 ≤ l.length) && decide (l.length ≤ 8)) && upB 0 l
theorem upB_nil (a : Int) : upB a [] = true := rfl
theorem upB_cons (a n : Int) (r : List Int) : upB a (n :: r) = ((decide (a < n) && decide (n ≤ 64)) && upB n r) := rfl
theorem upB_in : ∀ {l : List Int} {a : Int}, upB a l = true → ∀ x ∈ l, a < x ∧ x ≤ 64
  | [], a, _, x, hx => by simp at hx
  | n :: r, a, h, x, hx => by
    rw [upB_cons] at h
    simp only [Bool.and_eq_true, decide_eq_true_eq] at h
    rcases List.mem_cons.1 hx with rfl | hx
    · exact h.1
    · have := upB_in h.2 x hx; omega
/-- a row of chunks as bytes -/
def chput (l : List Int) : List UInt8 := (l.map fun n => vput n.toNat).flatten
theorem chput_snoc (l : List Int) (j : Nat) (h : j < l.length) : chput (l.take (j + 1)) = chput (l.take j) ++ vput l[j].toNat := by
  unfold chput; rw [List.take_succ_eq_append_getElem h, List.map_append, List.flatten_append]; simp
theorem chput_le {l : List Int} (h : ∀ x ∈ l, x ≤ 64) : (chput l).length ≤ l.length * 10 := by
  induction l with
  | nil => simp [chput]
  | cons a r ih =>
    have h1 := ih fun x hx => h x (List.mem_cons_of_mem _ hx)
    have h2 : (vput a.toNat).length ≤ 10 := by rw [vput_len]; exact U64.size (by have := h a (List.mem_cons_self ..); unfold U64; omega)
    unfold chput at h1 ⊢
    rw [List.map_cons, List.flatten_cons, List.length_append, List.length_cons]; omega

set_option maxRecDepth 100000 in
set_option maxHeartbeats 800000 in
theorem cmd_row (A : Option Addr) (n c : Nat) (l : List Int) (w : World) (h : Is w A n l) (hn : n ≤ 1000000) :
    Calls Try.prog 114 #[.slice A n c] w fun e w' => e = .returned (.bool (rowChB l)) ∧ w = w' := by
  have hlen := h.len
  by_cases h1 : n < 1
  · have hr : rowChB l = false := by unfold rowChB; rw [dec_f (show ¬ 1 ≤ l.length by omega)]; rfl
    rw [hr]
    have hI : (n : Int) < 1 := by omega
    clear hr
    go_enter Try.func114, Try.ntmps114
    go_wp2
    go_ret
    exact ⟨rfl, rfl⟩
  · by_cases h8 : 8 < n
    · have hr : rowChB l = false := by unfold rowChB; rw [dec_f (show ¬ l.length ≤ 8 by omega), Bool.and_false]; rfl
      rw [hr]
      have hI : decide ((n : Int) < 1) = false := dec_f (by omega)
      have hI8 : (8 : Int) < n := by omega
      clear hr
      go_enter Try.func114, Try.ntmps114
      go_wp2
      go_ret
      exact ⟨rfl, rfl⟩
    · have hr : rowChB l = upB 0 l := by unfold rowChB; rw [dec_t (show 1 ≤ l.length by omega), dec_t (show l.length ≤ 8 by omega)]; rfl
      have Hr := Lib.hid hr
      have hI : decide ((n : Int) < 1) = false := dec_f (by omega)
      have hI8 : decide ((8 : Int) < n) = false := dec_f (by omega)
      clear hr
      go_enter Try.func114, Try.ntmps114
      go_wp2_with fail
      clear hI hI8
      go_loop [3, 16] (fun q i => ∃ (j : Nat) (a : Int), i = .int .i64 j ∧ j ≤ n ∧ q = .int .i64 a ∧ upB 0 l = upB a (l.drop j)) (fun _ i => n - (intOf i).toNat)
      case atStart => exact ⟨0, 0, rfl, by omega, rfl, rfl⟩
      case round =>
        obtain ⟨j, a, rfl, hj, rfl, hf⟩ := hrel
        by_cases hjn : j < n
        · obtain ⟨bb, off, rfl, hc⟩ := h.at_ hjn
          rw [List.drop_eq_getElem_cons (show j < l.length by omega), upB_cons] at hf
          generalize l[j]'(by omega) = x at *
          by_cases k1 : a < x
          · by_cases k2 : x ≤ 64
            · rw [dec_t k1, dec_t k2, Bool.true_and, Bool.true_and] at hf
              have HF := Lib.hid hf
              clear hf
              have j1 : decide (x ≤ a) = false := dec_f (by omega)
              have j2 : decide ((64 : Int) < x) = false := dec_f (by omega)
              go_wp2
              go_round
              case rel => exact ⟨j + 1, x, val_int (by omega), by omega, rfl, HF.out⟩
              case measure => simp [intOf]; omega
            · rw [dec_f k2, Bool.and_false, Bool.false_and] at hf
              have HF := Lib.hid (Hr.out.trans hf)
              have j1 : decide (x ≤ a) = false := dec_f (by omega)
              have j2 : (64 : Int) < x := by omega
              clear hf Hr
              go_wp2
              go_ret
              exact ⟨by rw [HF.out] <;> rfl, rfl⟩
          · rw [dec_f k1, Bool.false_and, Bool.false_and] at hf
            have HF := Lib.hid (Hr.out.trans hf)
            have j1 : x ≤ a := by omega
            clear hf Hr
            go_wp2
            go_ret
            exact ⟨by rw [HF.out] <;> rfl, rfl⟩
        · obtain rfl : n = j := by omega
          rw [List.drop_of_length_le (by omega), upB_nil] at hf
          have HF := Lib.hid (Hr.out.trans hf)
          clear hf Hr
          go_wp2
          go_ret
          exact ⟨by rw [HF.out] <;> rfl, rfl⟩

set_option maxRecDepth 100000 in
set_option maxHeartbeats 800000 in
theorem cmd_Chunks_no (A : Option Addr) (n c : Nat) (l : List Int) (w : World) (h : Is w A n l) (hn : n ≤ 1000000) (hr : rowChB l = false) :
    Calls Try.prog 92 #[.slice A n c] w fun e w' => e = .returned (.tuple #[.slice none 0 0, .int .i64 1]) ∧ w = w' := by
  have H := cmd_row A n c l w h hn
  rw [hr] at H
  have HR := Lib.hid H
  clear H hr
  go_enter Try.func92, Try.ntmps92
  go_wp2_with fail
  refine HR.out.mono ?_
  rintro e w1 ⟨rfl, rfl⟩
  go_wp2
  go_ret2
  exact ⟨rfl, rfl⟩
set_option maxRecDepth 100000 in
set_option maxHeartbeats 800000 in
theorem cmd_Chunks_ok (A : Option Addr) (n c : Nat) (l : List Int) (w : World) (h : Is w A n l) (hr : rowChB l = true) :
    Calls Try.prog 92 #[.slice A n c] w fun e w' => ∃ v, e = .returned (.tuple #[v, .int .i64 0]) ∧ w'.ownsRow w.heap.size 5 1 v (chput l).length ((chput l).map bv) ∧ Ext w w' := by
  have hlen := h.len
  have hr2 := hr
  unfold rowChB at hr2
  simp only [Bool.and_eq_true, decide_eq_true_eq] at hr2
  have hup := upB_in hr2.2
  have hn8 : n ≤ 8 := by omega
  have H := cmd_row A n c l w h (by omega)
  rw [hr] at H
  have HR := Lib.hid H
  have Hup := Lib.hid hup
  have h0 := World.ownsRow_nil w w.heap.size 5 1
  clear H hr hr2 hup
  go_enter Try.func92, Try.ntmps92
  go_wp2_with fail
  refine HR.out.mono ?_
  rintro e w1 ⟨rfl, rfl⟩
  go_wp2_with fail
  go_loopw [4, 12] (fun v i wr => ∃ j : Nat, i = .int .i64 j ∧ j ≤ n ∧ wr.ownsRow w.heap.size 5 1 v (chput (l.take j)).length ((chput (l.take j)).map bv) ∧ Ext w wr) (fun _ i _ => n - (intOf i).toNat)
  case atStart => exact ⟨0, rfl, by omega, by simpa [chput] using h0, Ext.refl w⟩
  case round =>
    clear h0
    obtain ⟨j, rfl, hj, hown, hx⟩ := hrel
    by_cases hjn : j < n
    · have hjl : j < l.length := by omega
      obtain ⟨bb, off, rfl, hc⟩ := (h.ext hx).at_ hjn
      have hxb := Hup.out l[j] (List.getElem_mem _)
      have hsn := chput_snoc l j hjl
      have hle : (chput (l.take j)).length ≤ (l.take j).length * 10 := chput_le (fun x hx => (Hup.out x (List.mem_of_mem_take hx)).2)
      have hle2 : (l.take j).length ≤ j := List.length_take_le _ _
      obtain ⟨x, hx0⟩ := Int.eq_ofNat_of_zero_le (show 0 ≤ l[j] by omega)
      rw [hx0] at hc hsn hxb
      have hU : U64 x := by unfold U64; omega
      have hQ : (vput x).length ≤ 10 := by rw [vput_len]; exact hU.size
      have HP := Lib.hid (varint_Put x hU wr)
      rw [Int.toNat_natCast] at hsn
      generalize chput (l.take j) = R at *
      generalize vput x = V at *
      have Hsn := Lib.hid hsn
      have hsz := hx.size
      have hwx : IntKind.u64.wrap (x : Int) = x := hU.wrap
      clear hsn hx0
      go_wp2_with fail
      refine HP.out.mono ?_
      rintro e w2 ⟨v2, rfl, hown2, y2⟩
      obtain ⟨A2, k2, rfl, _⟩ := own_form hown2
      have b2 := Rd.of_own hown2
      have hown' := own_ext hown y2
      have hz2 := y2.size
      go_wp2_with (at_builtin; refine wpList_app bytesT (by omega) _ rfl rfl rfl hown' rfl b2 (bvs_one _) (by unfold maxLen; omega) (by omega) (by omega) ?_; intro v3 w3 hown3 hg3 hat3)
      go_roundw
      case rel => exact ⟨j + 1, val_int (by omega), by omega, own_to hown3 (Nat.le_refl _) (by rw [Hsn.out, List.length_append]) (by rw [Hsn.out, List.map_append]), Below.app (hx.trans y2) hg3 (by omega) hown' (Nat.le_refl _)⟩
      case measure => simp [intOf]; omega
    · obtain rfl : n = j := by omega
      rw [List.take_of_length_le (by omega)] at hown
      go_wp2
      go_ret2
      exact ⟨_, rfl, hown, hx⟩
theorem cmd_Chunks_e (A : Option Addr) (n c : Nat) (l : List Int) (w : World) (h : Is w A n l) (hn : n ≤ 1000000) (b : Bool) (hr : rowChB l = b) :
    Calls Try.prog 92 #[.slice A n c] w fun e w' => ∃ v, e = .returned (.tuple #[v, .int .i64 (if b then 0 else 1)]) ∧ Ext w w' := by
  rcases b with _ | _
  · exact (cmd_Chunks_no A n c l w h hn hr).mono fun e w' ⟨he, hw⟩ => ⟨_, he, hw ▸ Ext.refl w⟩
  · exact (cmd_Chunks_ok A n c l w h hr).mono fun e w' ⟨v, he, _, hx⟩ => ⟨v, he, hx⟩
end Go.Proofs.Ytiildgoaiookhaa
