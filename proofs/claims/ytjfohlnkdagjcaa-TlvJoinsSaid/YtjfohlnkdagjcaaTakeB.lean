/- tlv.Take on too many bytes; the row taken from the bytes of a row that may be. -/
import Derived.Test.YtjfohlnkdagjcaaTakeW
namespace Go.Proofs.Ytjfohlnkdagjcaa
open Go.RowKit

set_option maxRecDepth 100000 in
set_option maxHeartbeats 400000 in
theorem tlv_Take_big (A : Option Addr) (n c : Nat) (w : World) (hn : 16384 < n) :
    Calls Try.prog 33 #[.slice A n c] w fun e w' => e = .returned (.tuple #[.slice none 0 0, .int .i64 4]) ∧ Ext w w' := by
  have hn1 : (16384 : Int) < n := by omega
  go_enter Try.func33, Try.ntmps33
  go_wp2
  go_ret2
  exact ⟨rfl, Ext.refl w⟩

/-- tag.Skip on a field's bytes and more -/
theorem tskip_fput {num wire n : Nat} {b : List UInt8} (hm : TagMay num wire) (hn : U64 n) (hb : b.length ≤ 16384) (L : List UInt8) : tskip (fput num wire n b ++ L) = ((fput num wire n b).length, 0) := by
  have hu : U64 b.length := by unfold U64; omega
  unfold tskip fput
  by_cases hw : wire = 0
  · subst hw
    rw [if_pos rfl, List.append_assoc, ttake_put hm, List.drop_left, vtake_put hn]
    simp
  · rw [if_neg hw, List.append_assoc, List.append_assoc, ttake_put hm, List.drop_left, vtake_put hu]
    dsimp only
    rw [if_neg (by simp), if_neg (by simp), if_neg hw, if_neg (by omega), if_neg (by simp; omega)]
    simp; omega

/-- what a row that may be is laid down as is taken as that row -/
theorem trow_put : ∀ (l : List FV) (p q : Option FV) (size : Nat), mayScan p size l = 0 → (∀ f ∈ l, U64 f.n ∧ f.len = f.b.length) → p.map FV.s = q.map FV.s →
    (trow q (rput l)).2 = 0 ∧ (trow q (rput l)).1.map FV.s = l.map FV.s
  | [], p, q, size, _, _, _ => by
    have : rput [] = [] := rfl
    rw [this, trow_nil]
    exact ⟨rfl, rfl⟩
  | f :: r, p, q, size, h, hk, hp => by
    obtain ⟨h1, h2, h3, h4⟩ := scan_head h
    obtain ⟨hu, hfl⟩ := hk f (by simp)
    obtain ⟨num, wire, e1, e2, hm⟩ := alone_tag h1
    have hr : rput (f :: r) = fput num wire f.n f.b ++ rput r := by
      unfold rput
      rw [List.map_cons, List.flatten_cons]
      show fput f.num.toNat f.wire.toNat f.n f.b ++ _ = _
      rw [e1, e2]; rfl
    have hb0 : wire = 0 → f.b = [] := by
      intro hw
      subst hw
      unfold aloneB at h1
      have : f.len = 0 := by
        by_cases a : f.num < 1
        · simp [a] at h1
        · by_cases b : 1000 < f.num
          · simp [a, b] at h1
          · simp [a, b, e2] at h1; exact h1
      exact List.eq_nil_of_length_eq_zero (by omega)
    have hn2 : wire = 2 → f.n = 0 := by
      intro hw
      subst hw
      unfold aloneB at h1
      by_cases a : f.num < 1
      · simp [a] at h1
      · by_cases b : 1000 < f.num
        · simp [a, b] at h1
        · simp [a, b, e2] at h1; exact h1
    have hs := tskip_fput hm hu (show f.b.length ≤ 16384 by omega) (rput r)
    have hpos : 0 < (fput num wire f.n f.b).length := by
      unfold fput; rw [List.length_append, tag_len hm]; split <;> omega
    have hne : rput (f :: r) ≠ [] := by
      intro h0; rw [hr] at h0
      have := congrArg List.length h0
      rw [List.length_append] at this; simp at this; rw [this.1] at hpos; simp at hpos
    have ht : tfield ((rput (f :: r)).take (fput num wire f.n f.b).length) = tfv num wire f.n f.b := by
      rw [hr, List.take_left]; exact tfield_put hm hu (by omega) hb0 hn2
    have hfs : (tfv num wire f.n f.b).s = f.s := by unfold tfv FV.s; rw [e1, e2, hfl]
    have hfa : fallsB q (tfield ((rput (f :: r)).take (fput num wire f.n f.b).length)) = false := by
      rw [ht, ← h2]; exact (s_falls hp hfs.symm).symm
    rw [hr] at hne hfa ht
    rw [hr, trow_next hne hpos hs hfa, List.drop_left, ht]
    obtain ⟨i1, i2⟩ := trow_put r (some f) (some (tfv num wire f.n f.b)) _ h4 (fun g hg => hk g (by simp [hg])) (by simp [hfs])
    unfold tjoin
    rw [if_neg (by rw [i1]; simp)]
    refine ⟨rfl, ?_⟩
    rw [List.map_append, i2, List.map_singleton, hfs]; rfl

theorem tfv_alone {num wire n : Nat} {b : List UInt8} (hm : TagMay num wire) (h0 : wire = 0 → b = []) (h2 : wire = 2 → n = 0) : aloneB (tfv num wire n b) = true := by
  obtain ⟨m1, m2, m3⟩ := hm
  unfold aloneB tfv
  dsimp only
  rw [if_neg (by omega), if_neg (by omega)]
  rcases m3 with rfl | rfl
  · rw [h0 rfl]; rfl
  · rw [h2 rfl]; rfl
/-- bytes that are a row are those that it is laid down as, and the row may be -/
theorem trow_sound : ∀ (k : Nat) (l : List UInt8) (q : Option FV) (size : Nat), l.length ≤ k → (trow q l).2 = 0 → size + l.length ≤ 16384 → rput (trow q l).1 = l ∧ mayScan q size (trow q l).1 = 0 := by
  intro k
  induction k with
  | zero =>
    intro l q size hk h hs
    have : l = [] := List.eq_nil_of_length_eq_zero (by omega)
    subst this
    rw [trow_nil]
    exact ⟨rfl, by rw [mayScan_nil, if_neg (by omega)]⟩
  | succ k ih =>
    intro l q size hk h hs
    by_cases hl : l = []
    · subst hl
      rw [trow_nil]
      exact ⟨rfl, by rw [mayScan_nil, if_neg (by omega)]⟩
    · rcases hsk : tskip l with ⟨z, er⟩
      by_cases her : er ≠ 0
      · rw [trow_bad hl her (by rw [hsk])] at h; exact absurd h her
      · obtain rfl : er = 0 := by omega
        obtain ⟨num, wire, n, b, q1, q2, q3, q4, q5, q6, q7, q8, q9⟩ := tskip_sound hsk
        have ht : tfield (l.take z) = tfv num wire n b := by rw [q6]; exact tfield_put q1 q2 q3 q4 q5
        rcases hf : fallsB q (tfield (l.take z)) with _ | _
        · rw [trow_next hl q9 hsk hf, ht] at h ⊢
          rw [ht] at hf
          have hin : (trow (some (tfv num wire n b)) (l.drop z)).2 = 0 := by
            unfold tjoin at h
            by_cases hc : (trow (some (tfv num wire n b)) (l.drop z)).2 ≠ 0
            · rw [if_pos hc] at h; exact h
            · simpa using hc
          have hdl : (l.drop z).length = l.length - z := List.length_drop
          obtain ⟨i1, i2⟩ := ih (l.drop z) (some (tfv num wire n b)) (size + z) (by omega) hin (by omega)
          unfold tjoin
          rw [if_neg (by rw [hin]; simp)]
          have hfb : fbytes (tfv num wire n b) = fput num wire n b := by unfold fbytes tfv; simp
          refine ⟨?_, ?_⟩
          · show rput (tfv num wire n b :: (trow (some (tfv num wire n b)) (l.drop z)).1) = l
            unfold rput at i1 ⊢
            rw [List.map_cons, List.flatten_cons, i1, hfb, ← q6, List.take_append_drop]
          · have hfz : fsize (tfv num wire n b) = z := by show (fbytes _).length = z; rw [hfb]; exact q7.symm
            exact scan_mk (tfv_alone q1 q4 q5) hf q3 (by rw [hfz]; exact i2)
        · rw [trow_falls hl q9 hsk hf] at h; cases h
end Go.Proofs.Ytjfohlnkdagjcaa
