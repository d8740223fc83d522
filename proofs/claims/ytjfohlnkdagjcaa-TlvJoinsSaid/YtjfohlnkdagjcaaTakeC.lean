/- A row of bytes that is cut. -/
import Derived.Test.YtjfohlnkdagjcaaTakeB
import Derived.Test.YtjfohlnkdagjcaaTagC
namespace Go.Proofs.Ytjfohlnkdagjcaa

theorem tskip_cut {num wire n : Nat} {b : List UInt8} (hm : TagMay num wire) (hn : U64 n) (hb : b.length ≤ 16384) {t : Nat} (ht : t < (fput num wire n b).length) : tskip ((fput num wire n b).take t) = (0, 2) := by
  have hu : U64 b.length := by unfold U64; omega
  unfold fput at ht ⊢
  unfold tskip
  by_cases hw : wire = 0
  · rw [if_pos hw] at ht ⊢
    rw [List.length_append] at ht
    by_cases hc : t < (vput (8 * num + wire)).length
    · rw [List.take_append_of_le_length (by omega), ttake_cut hm hc]
      rfl
    · rw [List.take_append, List.take_of_length_le (by omega), ttake_put hm, List.drop_left, vtake_cut hn (by omega)]
      rfl
  · rw [if_neg hw] at ht ⊢
    rw [List.length_append, List.length_append] at ht
    by_cases hc : t < (vput (8 * num + wire)).length
    · rw [List.take_append_of_le_length (by omega), ttake_cut hm hc]
      rfl
    · rw [List.take_append, List.take_of_length_le (by omega), ttake_put hm, List.drop_left]
      by_cases hc2 : t - (vput (8 * num + wire)).length < (vput b.length).length
      · rw [List.take_append_of_le_length (by omega), vtake_cut hu hc2]
        rfl
      · rw [List.take_append, List.take_of_length_le (show (vput b.length).length ≤ _ by omega), vtake_put hu]
        dsimp only
        rw [if_neg (by simp), if_neg (by simp), if_neg hw, if_neg (by omega), if_pos]
        simp only [List.length_append, List.length_take]
        omega

theorem alone_fput {f : FV} (h1 : aloneB f = true) (hfl : f.len = f.b.length) : ∃ num wire : Nat, f.num = num ∧ f.wire = wire ∧ TagMay num wire ∧ fbytes f = fput num wire f.n f.b ∧ (wire = 0 → f.b = []) ∧ (wire = 2 → f.n = 0) := by
  obtain ⟨num, wire, e1, e2, hm⟩ := alone_tag h1
  refine ⟨num, wire, e1, e2, hm, by show fput f.num.toNat f.wire.toNat f.n f.b = _; rw [e1, e2]; rfl, ?_, ?_⟩
  · intro hw
    subst hw
    unfold aloneB at h1
    have : f.len = 0 := by
      by_cases a : f.num < 1
      · simp [a] at h1
      · by_cases b : 1000 < f.num
        · simp [a, b] at h1
        · simp [a, b, e2] at h1; exact h1
    exact List.eq_nil_of_length_eq_zero (by omega)
  · intro hw
    subst hw
    unfold aloneB at h1
    by_cases a : f.num < 1
    · simp [a] at h1
    · by_cases b : 1000 < f.num
      · simp [a, b] at h1
      · simp [a, b, e2] at h1; exact h1

/-- a row that is cut: short, or fewer fields -/
theorem trow_cut : ∀ (l : List FV) (p q : Option FV) (size t : Nat), mayScan p size l = 0 → (∀ f ∈ l, U64 f.n ∧ f.len = f.b.length) → p.map FV.s = q.map FV.s → t < (rput l).length →
    (trow q ((rput l).take t)).2 = 2 ∨ (trow q ((rput l).take t)).2 = 0 ∧ (trow q ((rput l).take t)).1.length < l.length
  | [], p, q, size, t, _, _, _, ht => by simp [rput] at ht
  | f :: r, p, q, size, t, h, hk, hp, ht => by
    obtain ⟨h1, h2, h3, h4⟩ := scan_head h
    obtain ⟨hu, hfl⟩ := hk f (by simp)
    obtain ⟨num, wire, e1, e2, hm, e3, hb0, hn2⟩ := alone_fput h1 hfl
    have hr : rput (f :: r) = fput num wire f.n f.b ++ rput r := by
      unfold rput
      rw [List.map_cons, List.flatten_cons, e3]
    rw [hr] at ht ⊢
    rcases Nat.eq_zero_or_pos t with h0 | h0
    · subst h0
      rw [List.take_zero, trow_nil]
      exact .inr ⟨rfl, by simp⟩
    · by_cases hc : t < (fput num wire f.n f.b).length
      · rw [List.take_append_of_le_length (by omega)]
        have hne : (fput num wire f.n f.b).take t ≠ [] := by
          intro e
          have := congrArg List.length e
          rw [List.length_take, List.length_nil] at this
          omega
        rw [trow_bad (e := 2) hne (by omega) (by rw [tskip_cut hm hu (by omega) hc])]
        exact .inl rfl
      · have hpos : 0 < (fput num wire f.n f.b).length := by
          unfold fput; rw [List.length_append, tag_len hm]; split <;> omega
        rw [List.take_append, List.take_of_length_le (show (fput num wire f.n f.b).length ≤ t by omega)]
        generalize hL : (rput r).take (t - (fput num wire f.n f.b).length) = L
        have hs := tskip_fput hm hu (show f.b.length ≤ 16384 by omega) L
        have hne : fput num wire f.n f.b ++ L ≠ [] := by
          intro h0
          have := congrArg List.length h0
          rw [List.length_append] at this; simp at this; rw [this.1] at hpos; simp at hpos
        have htf : tfield ((fput num wire f.n f.b ++ L).take (fput num wire f.n f.b).length) = tfv num wire f.n f.b := by
          rw [List.take_left]; exact tfield_put hm hu (by omega) hb0 hn2
        have hfs : (tfv num wire f.n f.b).s = f.s := by unfold tfv FV.s; rw [e1, e2, hfl]
        have hfa : fallsB q (tfield ((fput num wire f.n f.b ++ L).take (fput num wire f.n f.b).length)) = false := by
          rw [htf, ← h2]; exact (s_falls hp hfs.symm).symm
        rw [trow_next hne hpos hs hfa, List.drop_left, htf, ← hL]
        rw [List.length_append] at ht
        rcases trow_cut r (some f) (some (tfv num wire f.n f.b)) _ (t - (fput num wire f.n f.b).length) h4 (fun g hg => hk g (by simp [hg])) (by simp [hfs]) (by omega) with i1 | ⟨i1, i2⟩
        · left
          unfold tjoin
          rw [if_pos (by rw [i1]; simp)]
          exact i1
        · right
          unfold tjoin
          rw [if_neg (by rw [i1]; simp)]
          refine ⟨rfl, ?_⟩
          rw [List.length_append, List.length_singleton, List.length_cons]; omega
end Go.Proofs.Ytjfohlnkdagjcaa
