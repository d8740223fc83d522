/- The walks of layer 17: terms, and whether a log is as fresh. -/
import Derived.Test.YtcdnjhcddbkciaaLogA
namespace Go.Proofs.Ytcdnjhcddbkciaa
open Go.RowKit

/-- the term of an entry, 0 ahead of the first, -1 where there is none -/
def termB (l : List EV) (at_ : Int) : Int := if at_ = 0 then 0 else if at_ < 0 then -1 else match l[(at_ - 1).toNat]? with | none => -1 | some e => e.term
theorem termB_zero (l : List EV) : termB l 0 = 0 := by simp [termB]
theorem termB_at (l : List EV) (m : Nat) (h : m < l.length) : termB l ((m : Int) + 1) = l[m].term := by
  unfold termB
  rw [if_neg (by omega), if_neg (by omega), show ((m : Int) + 1 - 1).toNat = m by omega, List.getElem?_eq_getElem h]
theorem termB_out (l : List EV) (a : Int) (h : a < 0 ∨ (l.length : Int) < a) : termB l a = -1 := by
  unfold termB
  rcases h with h | h
  · rw [if_neg (by omega), if_pos h]
  · rw [if_neg (by omega), if_neg (by omega), List.getElem?_eq_none (by omega)]
theorem termB_last (l : List EV) : termB l l.length = lastT l := by
  rcases Nat.eq_zero_or_pos l.length with h | h
  · rw [List.eq_nil_of_length_eq_zero h]; rfl
  · have h1 := lastT_at l (l.length - 1) (by omega)
    have h2 := termB_at l (l.length - 1) (by omega)
    rw [h1, ← h2]
    congr 1
    omega
/-- is a log whose last entry has this number and term as fresh -/
def freshB (l : List EV) (num t : Int) : Bool := decide (lastT l < t) || (decide (t = lastT l) && decide ((l.length : Int) ≤ num))

set_option maxRecDepth 100000 in
set_option maxHeartbeats 800000 in
theorem logs_Term (A : Option Addr) (n c : Nat) (l : List EV) (a : Int) (w : World) (hf : Es w A n l) (hn : n ≤ 1000) :
    Calls Try.prog 25 #[.slice A n c, .int .i64 a] w fun e w' => e = .returned (.int .i64 (termB l a)) ∧ w = w' := by
  have hlen := hf.len
  by_cases h0 : a = 0
  · subst h0
    rw [termB_zero]
    clear hf hlen
    go_enter Try.func25, Try.ntmps25
    go_wp2
    go_ret
    exact ⟨rfl, rfl⟩
  · by_cases h1 : a < 0
    · rw [termB_out l a (.inl h1)]
      clear hf hlen h0
      go_enter Try.func25, Try.ntmps25
      go_wp2
      go_ret
      exact ⟨rfl, rfl⟩
    · have hz := beq_f h0
      by_cases h2 : (n : Int) < a
      · rw [termB_out l a (.inr (by omega))]
        clear hf hlen h0
        go_enter Try.func25, Try.ntmps25
        go_wp2
        go_ret
        exact ⟨rfl, rfl⟩
      · obtain ⟨m, rfl⟩ : ∃ m : Nat, a = (m : Int) + 1 := ⟨(a - 1).toNat, by omega⟩
        rw [termB_at l m (by omega)]
        obtain ⟨b, off, rfl, c0, c1⟩ := hf.at_ (i := m) (by omega)
        generalize l[m].term = t at *
        clear hf c1 hlen h0
        go_enter Try.func25, Try.ntmps25
        go_wp2
        go_ret
        exact ⟨rfl, rfl⟩

set_option maxRecDepth 100000 in
set_option maxHeartbeats 800000 in
theorem ref17_Term (A : Option Addr) (n c : Nat) (l : List EV) (a : Int) (w : World) (hf : Es w A n l) (hn : n ≤ 1000) :
    Calls Try.prog 32 #[.slice A n c, .int .i64 a] w fun e w' => e = .returned (.int .i64 (termB l a)) ∧ w = w' := by
  have hlen := hf.len
  by_cases h0 : a = 0
  · subst h0
    rw [termB_zero]
    clear hf hlen
    go_enter Try.func32, Try.ntmps32
    go_wp2
    go_ret
    exact ⟨rfl, rfl⟩
  · by_cases h1 : a < 0
    · rw [termB_out l a (.inl h1)]
      clear hf hlen h0
      go_enter Try.func32, Try.ntmps32
      go_wp2
      go_ret
      exact ⟨rfl, rfl⟩
    · have hz := beq_f h0
      by_cases h2 : (n : Int) < a
      · rw [termB_out l a (.inr (by omega))]
        clear hf hlen h0
        go_enter Try.func32, Try.ntmps32
        go_wp2
        go_ret
        exact ⟨rfl, rfl⟩
      · obtain ⟨m, rfl⟩ : ∃ m : Nat, a = (m : Int) + 1 := ⟨(a - 1).toNat, by omega⟩
        rw [termB_at l m (by omega)]
        obtain ⟨b, off, rfl, c0, c1⟩ := hf.at_ (i := m) (by omega)
        generalize l[m].term = t at *
        clear hf c1 hlen h0
        go_enter Try.func32, Try.ntmps32
        go_wp2
        go_ret
        exact ⟨rfl, rfl⟩

set_option maxRecDepth 100000 in
set_option maxHeartbeats 800000 in
theorem ref17_Last (A : Option Addr) (n c : Nat) (l : List EV) (w : World) (hf : Es w A n l) (hn : n ≤ 1000) :
    Calls Try.prog 29 #[.slice A n c] w fun e w' => e = .returned (.tuple #[.int .i64 n, .int .i64 (lastT l)]) ∧ Ext w w' := by
  have hlen := hf.len
  have hT := ref17_Term A n c l n w hf hn
  rw [show termB l n = lastT l by rw [← hlen]; exact termB_last l] at hT
  have HT := Lib.hid hT; clear hT hlen hf
  go_enter Try.func29, Try.ntmps29
  go_wp2_with fail
  refine HT.out.mono ?_
  rintro e w1 ⟨rfl, rfl⟩
  go_wp2
  go_ret2
  exact ⟨rfl, Ext.refl w⟩

theorem fresh_cases (l : List EV) (num t : Int) : (lastT l < t ∧ freshB l num t = true) ∨ (¬ lastT l < t ∧ t = lastT l ∧ freshB l num t = decide ((l.length : Int) ≤ num)) ∨ (t < lastT l ∧ freshB l num t = false) := by
  by_cases h : lastT l < t
  · exact .inl ⟨h, by simp [freshB, h]⟩
  · by_cases h2 : t = lastT l
    · exact .inr (.inl ⟨h, h2, by simp [freshB, h2]⟩)
    · exact .inr (.inr ⟨by omega, by simp [freshB, h, h2]⟩)

set_option maxRecDepth 100000 in
set_option maxHeartbeats 800000 in
theorem logs_Fresh (A : Option Addr) (n c : Nat) (l : List EV) (num t : Int) (w : World) (hf : Es w A n l) (hn : n ≤ 1000) :
    Calls Try.prog 27 #[.slice A n c, .int .i64 num, .int .i64 t] w fun e w' => e = .returned (.bool (freshB l num t)) ∧ Ext w w' := by
  have hlen := hf.len
  have HT := Lib.hid (logs_Last A n c l w hf hn)
  have hc := fresh_cases l num t
  rw [hlen] at hc
  generalize lastT l = u at *
  generalize freshB l num t = f at *
  clear hf hlen
  rcases hc with ⟨h1, h2⟩ | ⟨h1, h3, h2⟩ | ⟨h1, h2⟩
  · have H2 := Lib.hid h2; clear h2
    go_enter Try.func27, Try.ntmps27
    go_wp2_with fail
    refine HT.out.mono ?_
    rintro e w1 ⟨rfl, x1⟩
    go_wp2
    go_ret
    exact ⟨by rw [H2.out]; rfl, x1⟩
  · subst h3
    have H2 := Lib.hid h2; clear h2
    go_enter Try.func27, Try.ntmps27
    go_wp2_with fail
    refine HT.out.mono ?_
    rintro e w1 ⟨rfl, x1⟩
    go_wp2
    go_ret
    exact ⟨by rw [H2.out]; rfl, x1⟩
  · have H2 := Lib.hid h2; clear h2
    go_enter Try.func27, Try.ntmps27
    go_wp2_with fail
    refine HT.out.mono ?_
    rintro e w1 ⟨rfl, x1⟩
    go_wp2
    go_ret
    exact ⟨by rw [H2.out]; rfl, x1⟩
set_option maxRecDepth 100000 in
set_option maxHeartbeats 800000 in
theorem ref17_Fresh (A : Option Addr) (n c : Nat) (l : List EV) (num t : Int) (w : World) (hf : Es w A n l) (hn : n ≤ 1000) :
    Calls Try.prog 33 #[.slice A n c, .int .i64 num, .int .i64 t] w fun e w' => e = .returned (.bool (freshB l num t)) ∧ Ext w w' := by
  have hlen := hf.len
  have HT := Lib.hid (ref17_Last A n c l w hf hn)
  have hc := fresh_cases l num t
  rw [hlen] at hc
  generalize lastT l = u at *
  generalize freshB l num t = f at *
  clear hf hlen
  rcases hc with ⟨h1, h2⟩ | ⟨h1, h3, h2⟩ | ⟨h1, h2⟩
  · have H2 := Lib.hid h2; clear h2
    go_enter Try.func33, Try.ntmps33
    go_wp2_with fail
    refine HT.out.mono ?_
    rintro e w1 ⟨rfl, x1⟩
    go_wp2
    go_ret
    exact ⟨by rw [H2.out]; rfl, x1⟩
  · subst h3
    have H2 := Lib.hid h2; clear h2
    go_enter Try.func33, Try.ntmps33
    go_wp2_with fail
    refine HT.out.mono ?_
    rintro e w1 ⟨rfl, x1⟩
    go_wp2
    go_ret
    exact ⟨by rw [H2.out]; rfl, x1⟩
  · have H2 := Lib.hid h2; clear h2
    have h3 : decide (u < t) = false := dec_f (by omega)
    have h4 : decide (t = u) = false := dec_f (by omega)
    go_enter Try.func33, Try.ntmps33
    go_wp2_with fail
    refine HT.out.mono ?_
    rintro e w1 ⟨rfl, x1⟩
    go_wp2
    go_ret
    exact ⟨by rw [H2.out]; rfl, x1⟩
end Go.Proofs.Ytcdnjhcddbkciaa
