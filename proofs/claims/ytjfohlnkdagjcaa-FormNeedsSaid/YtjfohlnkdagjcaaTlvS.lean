/- The walk of shown of layer 3's laws. -/
import Derived.Test.YtjfohlnkdagjcaaTlvP
namespace Go.Proofs.Ytjfohlnkdagjcaa
open Go.RowKit

def sh1 : FV := ⟨1, 0, 5, none, 0, 0, []⟩
def sh2 (g : Nat) : FV := ⟨2, 2, 0, some ⟨g, 0, none⟩, 2, 2, [7, 7]⟩
theorem sh1_bytes : fbytes sh1 = [8, 5] := by
  have e1 : vput 8 = [8] := vput_small (by omega)
  have e2 : vput 5 = [5] := vput_small (by omega)
  simp [fbytes, fput, sh1, e1, e2]
theorem sh2_bytes (g : Nat) : fbytes (sh2 g) = [18, 2, 7, 7] := by
  have e1 : vput 18 = [18] := vput_small (by omega)
  have e2 : vput 2 = [2] := vput_small (by omega)
  simp [fbytes, fput, sh2, e1, e2]
theorem sh_may (g : Nat) : fmay [sh1, sh2 g] = 0 := by
  have h1 : fsize sh1 = 2 := by show (fbytes sh1).length = 2; rw [sh1_bytes]; rfl
  have h2 : fsize (sh2 g) = 4 := by show (fbytes (sh2 g)).length = 4; rw [sh2_bytes]; rfl
  unfold fmay
  rw [mayScan_cons, if_neg (by decide), if_neg (by decide), if_neg (by decide), mayScan_cons, if_neg (by simp [aloneB, sh2]), if_neg (by simp [fallsB, risesB, sh1, sh2]), if_neg (by simp [sh2]), mayScan_nil, h1, h2]
  rfl

set_option maxRecDepth 100000 in
set_option maxHeartbeats 800000 in
theorem law03_shown (w : World) : Calls Try.prog 27 #[] w fun e w' => e = .returned (.bool true) ∧ Ext w w' := by
  have hb0 := bs_lit w #[.int .u8 7, .int .u8 7] [7, 7] 2 rfl rfl
  have x1 : Ext (w.alloc (.cells #[.int .u8 7, .int .u8 7] 5)) ((w.alloc (.cells #[.int .u8 7, .int .u8 7] 5)).alloc (.cells #[.int .i64 1, .int .i64 0, .int .u64 5, .slice none 0 0, .int .i64 2, .int .i64 2, .int .u64 0, .slice (some ⟨w.heap.size, 0, none⟩) 2 2] 42)) := (Ext.refl _).alloc _
  have hrd := Rd.block (size := 4) (w.alloc (.cells #[.int .u8 7, .int .u8 7] 5)) #[.int .i64 1, .int .i64 0, .int .u64 5, .slice none 0 0, .int .i64 2, .int .i64 2, .int .u64 0, .slice (some ⟨w.heap.size, 0, none⟩) 2 2] 42 2 rfl
  have hfs : Fs ((w.alloc (.cells #[.int .u8 7, .int .u8 7] 5)).alloc (.cells #[.int .i64 1, .int .i64 0, .int .u64 5, .slice none 0 0, .int .i64 2, .int .i64 2, .int .u64 0, .slice (some ⟨w.heap.size, 0, none⟩) 2 2] 42)) (some ⟨(w.alloc (.cells #[.int .u8 7, .int .u8 7] 5)).heap.size, 0, none⟩) 2 [sh1, sh2 w.heap.size] := by
    refine ⟨hrd, ?_⟩
    intro f hf
    simp only [List.mem_cons, List.not_mem_nil, or_false] at hf
    rcases hf with rfl | rfl
    · exact ⟨Bs.nil_ _ _, by decide, by decide, by unfold U64; decide⟩
    · exact ⟨hb0.ext x1, by simp [sh2], by simp [sh2, maxLen], by unfold U64; simp [sh2]⟩
  have hP := tlv_Put_ok _ 2 2 _ _ hfs (by omega) (sh_may _)
  rw [show rput [sh1, sh2 w.heap.size] = [8, 5, 18, 2, 7, 7] by simp [rput, sh1_bytes, sh2_bytes]] at hP
  rw [show (w.alloc (.cells #[.int .u8 7, .int .u8 7] 5)).heap.size = w.heap.size + 1 by simp] at hP
  have HP := Lib.hid hP; clear hP
  clear hrd hfs hb0
  go_enter Try.func27, Try.ntmps27
  go_wp2_with fail
  refine HP.out.mono ?_
  rintro e w1 ⟨v, rfl, hown, hx⟩
  obtain ⟨A, c, rfl, _⟩ := own_form hown
  have hx2 : Ext w w1 := ((Ext.refl w).alloc _).trans (x1.trans hx)
  clear x1 hx
  have hs1 := str_at (show Bs w1 A 6 [8, 5, 18, 2, 7, 7] from Bs.of_own hown) c
  have hs2 := str_at (bs_lit w1 #[.int .u8 8, .int .u8 5, .int .u8 18, .int .u8 2, .int .u8 7, .int .u8 7] [8, 5, 18, 2, 7, 7] 6 rfl rfl) 6
  clear hown
  go_wp2
  go_ret
  exact ⟨rfl, hx2.alloc _⟩
end Go.Proofs.Ytjfohlnkdagjcaa
