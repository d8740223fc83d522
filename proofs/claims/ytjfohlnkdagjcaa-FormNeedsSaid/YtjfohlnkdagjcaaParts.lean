/- The law TlvParts. -/
import Derived.Test.YtjfohlnkdagjcaaSplit
import Derived.Test.YtjfohlnkdagjcaaTlvS
import Derived.Test.YtjfohlnkdagjcaaTlvL
namespace Go.Proofs.Ytjfohlnkdagjcaa
open Go.RowKit

theorem s_alone {f g : FV} (h : f.s = g.s) : aloneB f = aloneB g ∧ f.len = g.len ∧ fbytes f = fbytes g ∧ f.num = g.num ∧ f.wire = g.wire := by
  obtain ⟨a, b, c, _, d, _, e⟩ := f
  obtain ⟨a', b', c', _, d', _, e'⟩ := g
  simp only [FV.s, Prod.mk.injEq] at h
  obtain ⟨rfl, rfl, rfl, rfl, rfl⟩ := h
  exact ⟨rfl, rfl, rfl, rfl, rfl⟩
theorem s_falls {p q : Option FV} {f g : FV} (hp : p.map FV.s = q.map FV.s) (h : f.s = g.s) : fallsB p f = fallsB q g := by
  rcases p with _ | p <;> rcases q with _ | q
  · rfl
  · cases hp
  · cases hp
  · obtain ⟨_, _, _, h1, h2⟩ := s_alone h
    obtain ⟨_, _, _, h3, h4⟩ := s_alone (Option.some.inj hp)
    simp only [fallsB, risesB, h1, h2, h3, h4]
theorem s_scan : ∀ (l m : List FV) (p q : Option FV) (size : Nat), l.map FV.s = m.map FV.s → p.map FV.s = q.map FV.s → mayScan p size l = mayScan q size m
  | [], [], p, q, size, _, _ => by rw [mayScan_nil, mayScan_nil]
  | [], _ :: _, _, _, _, h, _ => by cases h
  | _ :: _, [], _, _, _, h, _ => by cases h
  | f :: l, g :: m, p, q, size, h, hp => by
    simp only [List.map_cons, List.cons.injEq] at h
    obtain ⟨h1, h2, h3, h4, h5⟩ := s_alone h.1
    have hs : fsize f = fsize g := by show (fbytes f).length = (fbytes g).length; rw [h3]
    rw [mayScan_cons, mayScan_cons, h1, s_falls hp h.1, h2, hs, s_scan l m (some f) (some g) _ h.2 (by simp [h.1])]
theorem s_may {l m : List FV} (h : l.map FV.s = m.map FV.s) : fmay l = fmay m := s_scan l m none none 0 h rfl
theorem s_rput : ∀ {l m : List FV}, l.map FV.s = m.map FV.s → rput l = rput m
  | [], [], _ => rfl
  | [], _ :: _, h => by cases h
  | _ :: _, [], h => by cases h
  | f :: l, g :: m, h => by
    simp only [List.map_cons, List.cons.injEq] at h
    have := s_rput h.2
    unfold rput at this ⊢
    rw [List.map_cons, List.map_cons, List.flatten_cons, List.flatten_cons, this, (s_alone h.1).2.2.1]

theorem scan_head {p : Option FV} {size : Nat} {f : FV} {r : List FV} (h : mayScan p size (f :: r) = 0) : aloneB f = true ∧ fallsB p f = false ∧ f.len ≤ 16384 ∧ mayScan (some f) (size + fsize f) r = 0 := by
  rw [mayScan_cons] at h
  by_cases h1 : aloneB f = false
  · rw [if_pos h1] at h; cases h
  · rw [if_neg h1] at h
    by_cases h2 : fallsB p f = true
    · rw [if_pos h2] at h; cases h
    · rw [if_neg h2] at h
      by_cases h3 : 16384 < f.len
      · rw [if_pos h3] at h; cases h
      · rw [if_neg h3] at h
        exact ⟨by simpa using h1, by simpa using h2, by omega, h⟩
theorem scan_mk {p : Option FV} {size : Nat} {f : FV} {r : List FV} (h1 : aloneB f = true) (h2 : fallsB p f = false) (h3 : f.len ≤ 16384) (h4 : mayScan (some f) (size + fsize f) r = 0) : mayScan p size (f :: r) = 0 := by
  rw [mayScan_cons, if_neg (by rw [h1]; simp), if_neg (by rw [h2]; simp), if_neg (by omega), h4]
theorem scan_less : ∀ (l : List FV) (p : Option FV) (size size' : Nat), size' ≤ size → mayScan p size l = 0 → mayScan p size' l = 0
  | [], p, size, size', hs, h => by
    rw [mayScan_nil] at h ⊢
    by_cases c : 16384 < size
    · rw [if_pos c] at h; cases h
    · rw [if_neg (by omega)]
  | f :: r, p, size, size', hs, h => by
    obtain ⟨h1, h2, h3, h4⟩ := scan_head h
    exact scan_mk h1 h2 h3 (scan_less r _ _ _ (by omega) h4)
theorem scan_fresh {p : Option FV} {size : Nat} {l : List FV} (h : mayScan p size l = 0) : fmay l = 0 := by
  have h0 := scan_less l p size 0 (Nat.zero_le _) h
  unfold fmay
  cases l with
  | nil => rw [mayScan_nil] at h0 ⊢; exact h0
  | cons f r =>
    obtain ⟨h1, _, h3, h4⟩ := scan_head h0
    exact scan_mk h1 rfl h3 h4
theorem scan_pre : ∀ (l m : List FV) (p : Option FV) (size : Nat), mayScan p size (l ++ m) = 0 → mayScan p size l = 0
  | [], m, p, size, h => by
    have := (mayScan_ok p size m h).2
    rw [mayScan_nil, if_neg (by omega)]
  | f :: r, m, p, size, h => by
    obtain ⟨h1, h2, h3, h4⟩ := scan_head h
    exact scan_mk h1 h2 h3 (scan_pre r m _ _ h4)
theorem scan_post : ∀ (l m : List FV) (p : Option FV) (size : Nat), mayScan p size (l ++ m) = 0 → fmay m = 0
  | [], _, _, _, h => scan_fresh h
  | _ :: r, m, _, _, h => scan_post r m _ _ (scan_head h).2.2.2
theorem falls_le {a f : FV} (h : fallsB (some a) f = false) : a.num ≤ f.num := by
  simp only [fallsB, Bool.not_eq_false'] at h
  unfold risesB at h
  by_cases e : f.num = a.num
  · omega
  · rw [if_neg e] at h
    have := of_decide_eq_true h
    omega
theorem scan_ge : ∀ (l : List FV) (a : FV) (size : Nat), mayScan (some a) size l = 0 → ∀ f ∈ l, a.num ≤ f.num
  | [], _, _, _ => by simp
  | g :: r, a, size, h => by
    obtain ⟨_, h2, _, h4⟩ := scan_head h
    have hg := falls_le h2
    intro f hf
    rcases List.mem_cons.1 hf with rfl | hf
    · exact hg
    · have := scan_ge r g _ h4 f hf; omega
theorem scan_parts (most : Int) : ∀ (l : List FV) (p : Option FV) (size : Nat), mayScan p size l = 0 → l.filter (loB most) ++ l.filter (fun f => !loB most f) = l
  | [], _, _, _ => rfl
  | f :: r, p, size, h => by
    obtain ⟨_, _, _, h4⟩ := scan_head h
    by_cases c : loB most f = true
    · simp only [List.filter_cons, c, Bool.not_true, if_true, List.cons_append]
      rw [if_neg (by simp), scan_parts most r _ _ h4]
    · have c' : loB most f = false := by simpa using c
      have hge := scan_ge r f _ h4
      have hno : ∀ g ∈ r, loB most g = false := by
        intro g hg
        have := hge g hg
        simp only [loB, decide_eq_false_iff_not] at c' ⊢
        omega
      have e1 : r.filter (loB most) = [] := by
        rw [List.filter_eq_nil_iff]
        intro g hg; rw [hno g hg]; simp
      have e2 : r.filter (fun f => !loB most f) = r := by
        rw [List.filter_eq_self]
        intro g hg; simp [hno g hg]
      simp only [List.filter_cons, c', Bool.not_false, if_true]
      rw [if_neg (by simp), e1, e2]; rfl
theorem parts_may (most : Int) {l : List FV} (h : fmay l = 0) : fmay (l.filter (loB most)) = 0 ∧ fmay (l.filter (fun f => !loB most f)) = 0 ∧ rput (l.filter (loB most)) ++ rput (l.filter (fun f => !loB most f)) = rput l := by
  have hp := scan_parts most l none 0 h
  have h' : fmay (l.filter (loB most) ++ l.filter (fun f => !loB most f)) = 0 := by rw [hp]; exact h
  refine ⟨scan_pre _ _ none 0 h', scan_post _ _ none 0 h', ?_⟩
  have : rput (l.filter (loB most) ++ l.filter (fun f => !loB most f)) = rput l := by rw [hp]
  rw [← this]
  unfold rput
  rw [List.map_append, List.flatten_append]
theorem filt_len (q : FV → Bool) (l : List FV) : (l.filter q).length + (l.filter (fun f => !q f)).length = l.length := by
  induction l with
  | nil => rfl
  | cons f r ih =>
    simp only [List.filter_cons]
    rcases q f <;> simp <;> omega
theorem s_num {P l : List FV} {q : FV → Bool} (h : P.map FV.s = (l.filter q).map FV.s) {R : Int → Prop} (hR : ∀ f, q f = true → R f.num) : ∀ i (hi : i < P.length), R P[i].num := by
  intro i hi
  have hl : (l.filter q).length = P.length := by have := congrArg List.length h; simpa using this.symm
  have := congrArg (fun m => m[i]?) h
  simp only [List.getElem?_map, List.getElem?_eq_getElem hi, List.getElem?_eq_getElem (show i < (l.filter q).length by omega), Option.map_some, Option.some.injEq] at this
  have hn := (s_alone this).2.2.2.1
  rw [hn]
  exact hR _ (List.mem_filter.1 (List.getElem_mem (show i < (l.filter q).length by omega))).2
end Go.Proofs.Ytjfohlnkdagjcaa
