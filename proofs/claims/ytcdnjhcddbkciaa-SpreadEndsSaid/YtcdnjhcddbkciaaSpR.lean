/- What spread.Take answers where a letter is a Copy that may be, in one. -/
import Derived.Test.YtcdnjhcddbkciaaSpB
import Derived.Test.YtcdnjhcddbkciaaSpN
namespace Go.Proofs.Ytcdnjhcddbkciaa
open Go.RowKit

theorem entR_ok : ∀ (l : List EV) (p : Int) (w : World), (∀ f ∈ l, f.Ok w) → ∀ r ∈ entR p l, r.Ok w
  | [], _, _, _, r, hr => by simp [entR] at hr
  | f :: l, p, w, h, r, hr => by
    simp only [entR, List.mem_cons] at hr
    rcases hr with rfl | hr
    · obtain ⟨a, b, c, _⟩ := h f (by simp)
      exact ⟨a, b, c⟩
    · exact entR_ok l (p + 1) w (fun g hg => h g (by simp [hg])) r hr
theorem takeL_ok {st xt a : Int} {l xl : List EV} {w : World} (h : ∀ f ∈ xl, f.Ok w) : ∀ r ∈ takeL st l xt a xl, r.Ok w := by
  intro r hr
  unfold takeL at hr
  rcases List.mem_append.1 hr with hr | hr
  · rcases List.mem_append.1 hr with hr | hr
    · exact newerL_ok _ _ w r hr
    · unfold cutR at hr
      split at hr
      · simp at hr
      · simp only [List.mem_singleton] at hr
        subst hr
        exact ⟨Bs.nil_ _ _, Nat.le_refl _, by simp [maxLen]⟩
  · exact entR_ok _ _ w (fun f hf => h f (mergeB_mem l a xl f hf)) r hr
theorem may_parts {x : LV} (h : mayB x = true) : 1 ≤ x.term ∧ x.term ≤ 1048576 ∧ ∀ f ∈ x.l, 1 ≤ f.term ∧ f.term ≤ 1048576 ∧ f.len ≤ 200 := by
  unfold mayB at h
  simp only [Bool.and_eq_true] at h
  have h1 := inB_t.1 h.1.1.1.1.1.1.1.2
  refine ⟨h1.1, h1.2, fun f hf => ?_⟩
  have := List.all_eq_true.1 h.2 f hf
  simp only [Bool.and_eq_true, inB_t, decide_eq_true_eq] at this
  exact ⟨this.1.1, this.1.2, this.2⟩
theorem may_b {x : LV} (h : mayB x = true) : 0 ≤ x.b := by
  unfold mayB at h
  simp only [Bool.and_eq_true] at h
  exact (inB_t.1 h.1.1.1.1.2).1
theorem termB_in {l : List EV} {a : Int} (ha : 0 ≤ a) (h : 0 ≤ termB l a) : a ≤ l.length := by
  unfold termB at h
  by_cases h0 : a = 0
  · omega
  · rw [if_neg h0, if_neg (by omega)] at h
    cases hq : l[(a - 1).toNat]? with
    | none => rw [hq] at h; simp at h
    | some e =>
      have := (List.getElem?_eq_some_iff.1 hq).1
      omega
def TakeAll (s : SV) (x : LV) (w : World) (e : Ending) (w' : World) : Prop :=
  ∃ (A : Option Addr) (n c : Nat) (recs : List RV) (ok : Bool) (k V : Int), e = .returned (.tuple #[.slice A n c, .bool ok, .int .i64 k, .int .i64 0]) ∧ Rs w' A n recs ∧ n ≤ 1000 ∧
    RunR s.p recs ⟨s.floor, max s.term x.term, V, (if ok = true then keptL s.l x.l x.a.toNat else s.l).map EV.p⟩ ∧ I64 V ∧
    ((ok = false ∧ k = 0 ∧ (x.term < s.term ∨ termB s.l x.a ≠ x.b)) ∨ (ok = true ∧ k = x.a + x.n ∧ ¬ x.term < s.term ∧ termB s.l x.a = x.b ∧ 0 ≤ x.a ∧ x.a ≤ s.n)) ∧ Ext w w'
theorem take_all (s : SV) (x : LV) (w : World) (hs : s.Ok w) (hx : x.Ok w) (hn : s.n ≤ 60) (hm : x.n ≤ 1000) (hmay : mayB x = true) (hk : x.kind = 3) (h64 : x.a + x.n ≤ 64) :
    Calls Try.prog 54 #[s.val, x.val] w (TakeAll s x w) := by
  obtain ⟨ha0, ha64, hn4⟩ := mayB_copy hmay hk
  obtain ⟨ht1, ht2, hen⟩ := may_parts hmay
  have hb0 := may_b hmay
  have hsl := hs.es.len
  have hxl := hx.es.len
  by_cases hlow : x.term < s.term
  · refine (take_low s x w hs hx (by omega) hm hmay hk h64 hlow).mono ?_
    rintro e w' ⟨rfl, he⟩
    refine ⟨none, 0, 0, [], false, 0, s.vote, rfl, Rs.nil_ _ _, by omega, ?_, hs.u2, .inl ⟨rfl, rfl, .inl hlow⟩, he⟩
    rw [show max s.term x.term = s.term by omega]
    exact RunR.nil s.p
  · obtain ⟨t, ht⟩ := Int.eq_ofNat_of_zero_le (show 0 ≤ x.term by omega)
    obtain ⟨a, ha⟩ := Int.eq_ofNat_of_zero_le ha0
    have hmax : max s.term x.term = (t : Int) := by omega
    by_cases hmt : termB s.l x.a = x.b
    · have hal := termB_in ha0 (by rw [hmt]; exact hb0)
      refine (take_yes s x w hs hx (by omega) hm hmay hk h64 hlow hmt).mono ?_
      rintro e w' ⟨v, rfl, hown, he⟩
      obtain ⟨A, c, rfl, _⟩ := own_form hown
      have hok := takeL_ok (st := s.term) (xt := x.term) (a := x.a) (l := s.l) (w := w') (fun f hf => (hx.es.ok f hf).ext he)
      obtain ⟨V, hrun, hV⟩ := run_take s.p s.l x.l t a rfl (by omega) (by show ¬ (t : Int) < s.term; omega) (by omega) (by omega) (fun f hf => by have := hen f hf; omega)
      refine ⟨A, _, c, takeL s.term s.l x.term x.a x.l, true, x.a + x.n, V, rfl, Rs.of_own hown hok, ?_, ?_, ?_, .inr ⟨rfl, rfl, hlow, hmt, ha0, by omega⟩, he⟩
      · unfold takeL
        rw [List.length_append, List.length_append, entR_len]
        have h1 : (newerL s.term x.term).length ≤ 1 := by unfold newerL; split <;> simp
        have h2 : (cutR (mergeB s.l x.a x.l).1).length ≤ 1 := by unfold cutR; split <;> simp
        have h3 := mergeB_le s.l x.a x.l
        omega
      · rw [hmax, ha, ht]
        exact hrun
      · rcases hV with h | h
        · rw [h]; exact ⟨by omega, by omega⟩
        · rw [h]; exact hs.u2
    · refine (take_no s x w hs hx (by omega) hm hmay hk h64 hlow hmt).mono ?_
      rintro e w' ⟨v, rfl, hown, he⟩
      obtain ⟨A, c, rfl, _⟩ := own_form hown
      obtain ⟨V, hrun, hV⟩ := run_newer s.p t (by omega) (by show ¬ (t : Int) < s.term; omega)
      refine ⟨A, _, c, newerL s.term x.term, false, 0, V, rfl, Rs.of_own hown (newerL_ok _ _ _), ?_, ?_, ?_, .inl ⟨rfl, rfl, .inr hmt⟩, he⟩
      · unfold newerL; split <;> simp
      · rw [hmax, ht]
        exact hrun
      · rcases hV with h | h
        · rw [h]; exact ⟨by omega, by omega⟩
        · rw [h]; exact hs.u2
end Go.Proofs.Ytcdnjhcddbkciaa
