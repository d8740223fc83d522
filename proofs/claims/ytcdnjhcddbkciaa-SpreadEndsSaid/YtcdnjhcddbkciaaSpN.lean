/- What records do to a state, and that what is saved to a Copy may be done: plain words. -/
import Derived.Test.YtcdnjhcddbkciaaSpA
import Derived.Test.YtcdnjhcddbkciaaEntP
namespace Go.Proofs.Ytcdnjhcddbkciaa
open Go.RowKit

/-- a state without where its log lies -/
structure SP where
  floor : Int
  term : Int
  vote : Int
  l : List (Int × List UInt8)
def SV.p (s : SV) : SP := ⟨s.floor, s.term, s.vote, s.l.map EV.p⟩
inductive StepR : SP → RV → SP → Prop
  | vote (s : SP) (t who : Nat) (ht : t ≤ 1048576) (hw : who ≤ 5) (h : s.term < t ∨ (t : Int) = s.term ∧ (s.vote = 0 ∨ s.vote = who)) : StepR s (voteR t who) ⟨s.floor, t, who, s.l⟩
  | entry (s : SP) (n u : Nat) (A : Option Addr) (len cap : Nat) (x : List UInt8) (hn : n = s.l.length) (h64 : n + 1 ≤ 64) (hu : u ≤ 1048576) (hl : len ≤ 200) : StepR s ⟨3, ((n + 1 : Nat) : Int), (u : Int), A, len, cap, x⟩ ⟨s.floor, s.term, s.vote, s.l ++ [((u : Int), x)]⟩
  | cut (s : SP) (t : Nat) (h1 : 1 ≤ t) (h2 : t ≤ 64) (h3 : t ≤ s.l.length) : StepR s ⟨4, (t : Int), 0, none, 0, 0, []⟩ ⟨s.floor, s.term, s.vote, s.l.take (t - 1)⟩
inductive RunR : SP → List RV → SP → Prop
  | nil (s : SP) : RunR s [] s
  | cons {s s' s'' : SP} {r : RV} {l : List RV} (h : StepR s r s') (k : RunR s' l s'') : RunR s (r :: l) s''
theorem RunR.app {s s' s'' : SP} {l l' : List RV} (h : RunR s l s') (k : RunR s' l' s'') : RunR s (l ++ l') s'' := by
  induction h with
  | nil s => exact k
  | cons h _ ih => exact .cons h (ih k)
theorem RunR.one {s s' : SP} {r : RV} (h : StepR s r s') : RunR s [r] s' := .cons h (.nil _)
theorem RunR.inv {s s' : SP} {r : RV} {l : List RV} (h : RunR s (r :: l) s') : ∃ s1, StepR s r s1 ∧ RunR s1 l s' := by
  cases h with
  | cons h k => exact ⟨_, h, k⟩
theorem RunR.inv_nil {s s' : SP} (h : RunR s [] s') : s = s' := by
  cases h; rfl
theorem run_entR : ∀ (l : List EV) (s : SP) (p : Int), (∀ f ∈ l, 0 ≤ f.term ∧ f.term ≤ 1048576 ∧ f.len ≤ 200) → (l ≠ [] → s.l.length + l.length ≤ 64) → (l ≠ [] → p = s.l.length + 1) → RunR s (entR p l) ⟨s.floor, s.term, s.vote, s.l ++ l.map EV.p⟩
  | [], s, p, _, _, _ => by simp only [entR, List.map_nil, List.append_nil]; exact .nil s
  | f :: r, s, p, h, h64, hp => by
    obtain ⟨h0, h1, h2⟩ := h f (by simp)
    replace h64 := h64 (by simp)
    simp only [List.length_cons] at h64
    have hp' := hp (by simp)
    have ih := run_entR r ⟨s.floor, s.term, s.vote, s.l ++ [f.p]⟩ (p + 1) (fun g hg => h g (by simp [hg])) (fun _ => by simp; omega) (fun _ => by simp; omega)
    obtain ⟨u, hu⟩ := Int.eq_ofNat_of_zero_le h0
    have e : p = ((s.l.length + 1 : Nat) : Int) := by omega
    simp only [List.append_assoc, List.singleton_append] at ih
    unfold entR
    refine .cons (s' := ⟨s.floor, s.term, s.vote, s.l ++ [f.p]⟩) ?_ ih
    rw [e]
    have : f.p = ((u : Int), f.b) := by unfold EV.p; rw [hu]
    rw [this, hu]
    exact .entry s s.l.length u f.A f.len f.cap f.b rfl (by omega) (by omega) h2
/-- the log behind a Copy -/
def keptL (l xl : List EV) (a : Nat) : List EV := l.take (keepN l (mergeB l a xl).1) ++ (mergeB l a xl).2
theorem mergeB_nat (l xl : List EV) (a : Nat) (ha : a ≤ l.length) : mergeB l a xl = mrgB (l.drop a) xl a := by
  unfold mergeB
  rw [if_neg (by omega)]; simp
theorem run_newer (s : SP) (t : Nat) (ht : t ≤ 1048576) (hlow : ¬ (t : Int) < s.term) : ∃ v, RunR s (newerL s.term t) ⟨s.floor, t, v, s.l⟩ ∧ (v = 0 ∨ v = s.vote) := by
  unfold newerL
  by_cases h : (t : Int) ≤ s.term
  · rw [if_pos h]
    have : s.term = t := by omega
    exact ⟨s.vote, by rw [← this]; exact .nil s, .inr rfl⟩
  · rw [if_neg h]
    exact ⟨0, .one (StepR.vote s t 0 ht (by omega) (.inl (by omega))), .inl rfl⟩
theorem run_take (s : SP) (l xl : List EV) (t a : Nat) (hl : s.l = l.map EV.p) (ht : t ≤ 1048576) (hlow : ¬ (t : Int) < s.term) (ha : a ≤ l.length) (h64 : a + xl.length ≤ 64)
    (hx : ∀ f ∈ xl, 0 ≤ f.term ∧ f.term ≤ 1048576 ∧ f.len ≤ 200) : ∃ v, RunR s (takeL s.term l t a xl) ⟨s.floor, t, v, (keptL l xl a).map EV.p⟩ ∧ (v = 0 ∨ v = s.vote) := by
  obtain ⟨v, h1, hv⟩ := run_newer s t ht hlow
  refine ⟨v, ?_, hv⟩
  obtain ⟨c, rest, e, h2, h3, h4, h5, h6, h7, h8, h9, h10, h11⟩ := merge_facts l xl a ha
  rw [← mergeB_nat l xl a ha] at e
  unfold takeL keptL
  rw [e]
  dsimp only
  refine RunR.app (s' := ⟨s.floor, t, v, (l.take (keepN l c)).map EV.p⟩) (RunR.app h1 ?_) ?_
  · unfold cutR keepN
    by_cases hc : c = 0
    · rw [if_pos hc, if_pos hc, List.take_length, hl]; exact .nil _
    · rw [if_neg hc, if_neg hc, List.map_take, ← hl]
      refine .one (StepR.cut ⟨s.floor, t, v, s.l⟩ c (by omega) ?_ ?_)
      · have hk : keepN l c = c - 1 := by unfold keepN; rw [if_neg hc]
        rw [hk] at h4
        omega
      · rw [hl, List.length_map]; omega
  · have hlen : ((l.take (keepN l c)).map EV.p).length = keepN l c := by rw [List.length_map, List.length_take]; omega
    rw [List.map_append]
    have hpos : rest ≠ [] → 0 < rest.length := fun hn => by cases rest with | nil => exact absurd rfl hn | cons _ _ => simp
    refine run_entR rest ⟨s.floor, t, v, (l.take (keepN l c)).map EV.p⟩ _ (fun f hf => hx f (h11 f hf)) (fun hn => ?_) (fun hn => ?_)
    · show ((l.take (keepN l c)).map EV.p).length + _ ≤ _
      rw [hlen]
      have := hpos hn
      omega
    · show _ = (((l.take (keepN l c)).map EV.p).length : Int) + 1
      rw [hlen]
      have := hpos hn
      omega
/-- what is known of the log behind a Copy -/
theorem kept_facts (l xl l' : List EV) (a : Nat) (ha : a ≤ l.length) (h : l'.map EV.p = (keptL l xl a).map EV.p) :
    a + xl.length ≤ l'.length ∧ (l'.take a).map EV.p = (l.take a).map EV.p ∧ (∀ j, j < xl.length → tm l' (a + j) = tm xl j) ∧ mergeB l' a xl = (0, []) ∧ termB l' a = termB l a := by
  obtain ⟨c, rest, e, h2, h3, h4, h5, h6, h7, h8, h9, h10, h11⟩ := merge_facts l xl a ha
  rw [← mergeB_nat l xl a ha] at e
  unfold keptL at h
  rw [e] at h
  dsimp only at h
  have hlen : l'.length = (l.take (keepN l c) ++ rest).length := by have := congrArg List.length h; simpa using this
  have hlen' : l'.length = keepN l c + rest.length := by rw [hlen, List.length_append, List.length_take]; omega
  have htm : ∀ j, tm l' j = tm (l.take (keepN l c) ++ rest) j := fun j => by
    have := congrArg (fun m => (m[j]?).map Prod.fst) h
    simp only [List.getElem?_map, Option.map_map] at this
    unfold tm
    have e2 : (Prod.fst ∘ EV.p) = EV.term := rfl
    rw [e2] at this
    rw [this]
  have htk : (l'.take a).map EV.p = (l.take a).map EV.p := by
    rw [List.map_take, h, ← List.map_take, List.take_append_of_le_length (by rw [List.length_take]; omega), List.take_take, Nat.min_eq_left h6]
  have h8' : ∀ j, j < xl.length → tm l' (a + j) = tm xl j := fun j hj => by rw [htm]; exact h8 j hj
  refine ⟨by omega, htk, h8', ?_, ?_⟩
  · rw [mergeB_nat l' xl a (by omega)]
    exact mrgB_same xl _ a fun j hj => ⟨by rw [List.length_drop]; omega, by rw [tm_drop]; exact h8' j hj⟩
  · unfold termB
    by_cases h0 : (a : Int) = 0
    · rw [if_pos h0, if_pos h0]
    · rw [if_neg h0, if_neg h0, if_neg (by omega), if_neg (by omega)]
      have e1 : ((a : Int) - 1).toNat = a - 1 := by omega
      rw [e1, List.getElem?_eq_getElem (by omega), List.getElem?_eq_getElem (by omega)]
      dsimp only
      have := htm (a - 1)
      rw [tm_at (by omega), tm_left (by rw [List.length_take]; omega), tm_take (by omega), tm_at (by omega)] at this
      exact this
end Go.Proofs.Ytcdnjhcddbkciaa
