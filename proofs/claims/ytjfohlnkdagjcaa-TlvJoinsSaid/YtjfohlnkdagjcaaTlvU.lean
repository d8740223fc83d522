/- tlv.Take on any bytes; what it takes may be and is laid down as these; the law's short. -/
import Derived.Test.YtjfohlnkdagjcaaTakeC
import Derived.Test.YtjfohlnkdagjcaaTakeS
import Derived.Test.YtjfohlnkdagjcaaTlvL
namespace Go.Proofs.Ytjfohlnkdagjcaa
open Go.RowKit

/-- what tlv.Take says of any bytes -/
def ttrow (l : List UInt8) : List FV × Nat := if 16384 < l.length then ([], 4) else trow none l
theorem ttrow_clean (l : List UInt8) (h : (ttrow l).2 ≠ 0) : (ttrow l).1 = [] := by
  unfold ttrow at h ⊢
  split
  · rfl
  · rename_i h1; rw [if_neg h1] at h; exact trow_clean _ _ h
theorem ttrow_sound {l : List UInt8} (h : (ttrow l).2 = 0) : l.length ≤ 16384 ∧ rput (ttrow l).1 = l ∧ fmay (ttrow l).1 = 0 := by
  unfold ttrow at h ⊢
  by_cases h1 : 16384 < l.length
  · rw [if_pos h1] at h; cases h
  · rw [if_neg h1] at h ⊢
    have := trow_sound l.length l none 0 (Nat.le_refl _) h (by omega)
    exact ⟨by omega, this.1, this.2⟩

theorem tlv_Take_any (A : Option Addr) (n c : Nat) (l : List UInt8) (w : World) (hb : Bs w A n l) (hn : n ≤ 100000) (hnc : n ≤ c) :
    Calls Try.prog 33 #[.slice A n c] w fun e w' => ∃ A' c' ms, e = .returned (.tuple #[.slice A' ms.length c', .int .i64 (ttrow l).2]) ∧ Fs w' A' ms.length ms ∧ ms.map FV.s = (ttrow l).1.map FV.s ∧ ms.length ≤ c' ∧ Ext w w' := by
  have hl := hb.len
  by_cases h : 16384 < n
  · refine (tlv_Take_big A n c w h).mono ?_
    rintro e w' ⟨rfl, hx⟩
    have : ttrow l = ([], 4) := by unfold ttrow; rw [if_pos (by omega)]
    rw [this]
    exact ⟨none, 0, [], rfl, Fs.nil_ _ _, rfl, Nat.le_refl _, hx⟩
  · refine (tlv_Take A n c l w hb (by omega) hnc).mono ?_
    rintro e w' ⟨v, ms, rfl, hown, hof, hs, hx⟩
    have : ttrow l = trow none l := by unfold ttrow; rw [if_neg (by omega)]
    rw [this]
    obtain ⟨A', c', rfl, hc⟩ := own_form hown
    exact ⟨A', c', ms, rfl, Fs.of_own hown (fun f hf => (hof f hf).ok), hs, hc, hx⟩

theorem rput_field_le (l : List FV) (h : ∀ f ∈ l, aloneB f = true ∧ f.len ≤ 16384) : l.length ≤ (rput l).length := by
  induction l with
  | nil => simp
  | cons f r ih =>
    have := ih fun x hx => h x (List.mem_cons_of_mem _ hx)
    obtain ⟨num, wire, e1, e2, hm⟩ := alone_tag (h f (List.mem_cons_self ..)).1
    have hp : 0 < (fbytes f).length := by
      unfold fbytes
      rw [e1, e2]
      unfold fput; rw [List.length_append]
      have : (vput (8 * (Int.toNat (num : Int)) + (Int.toNat (wire : Int)))).length ≥ 1 := by
        rw [show Int.toNat (num : Int) = num by simp, show Int.toNat (wire : Int) = wire by simp, tag_len hm]; split <;> omega
      omega
    unfold rput at this ⊢
    rw [List.map_cons, List.flatten_cons, List.length_append, List.length_cons]; omega

/-- tlv.Put on any row, with the bytes -/
theorem tlv_Put_all (A : Option Addr) (n c : Nat) (l : List FV) (w : World) (hf : Fs w A n l) (hn : n ≤ 20000) :
    Calls Try.prog 30 #[.slice A n c] w fun e w' => ∃ A' k c', e = .returned (.tuple #[.slice A' k c', .int .i64 (fmay l)]) ∧ Bs w' A' k (if fmay l = 0 then rput l else []) ∧ k ≤ c' ∧ Ext w w' := by
  by_cases h : fmay l = 0
  · refine (tlv_Put_ok A n c l w hf hn h).mono ?_
    rintro e w' ⟨v, rfl, hown, hx⟩
    obtain ⟨A', c', rfl, hc⟩ := own_form hown
    exact ⟨A', _, c', by rw [h]; rfl, by rw [if_pos h]; exact Bs.of_own hown, hc, hx⟩
  · refine (tlv_Put_no A n c l w hf hn h).mono ?_
    rintro e w' ⟨rfl, hx⟩
    exact ⟨none, 0, 0, rfl, by rw [if_neg h]; exact Bs.nil_ _ _, Nat.le_refl _, hx⟩

set_option maxRecDepth 100000 in
theorem law03_short (A : Option Addr) (n c : Nat) (w : World) (hnc : n ≤ c) (hc : c ≤ maxLen) : Calls Try.prog 32 #[.slice A n c] w fun e w' => e = .returned (.slice A (min n 17000) c) ∧ w = w' := by
  unfold maxLen at hc
  by_cases h : 17000 < n
  · rw [show min n 17000 = 17000 by omega]
    go_enter Try.func32, Try.ntmps32
    go_wp2
    go_ret
    exact ⟨rfl, rfl⟩
  · rw [show min n 17000 = n by omega]
    go_enter Try.func32, Try.ntmps32
    go_wp2
    go_ret
    exact ⟨rfl, rfl⟩
end Go.Proofs.Ytjfohlnkdagjcaa
