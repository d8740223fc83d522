/- The law FormNeeds in plain words: four rows made of a record's specs, and what Check says of them. No program in sight. -/
import Derived.Test.YtjfohlnkdagjcaaChk
import Derived.Test.YtjfohlnkdagjcaaParts
import Derived.Test.YtjfohlnkdagjcaaChkB
namespace Go.Proofs.Ytjfohlnkdagjcaa
open Go.RowKit

/-- a field without its place -/
def canon (f : FV) : FV := ⟨f.num, f.wire, f.n, none, f.len, 0, f.b⟩
theorem canon_eq {f g : FV} (h : f.s = g.s) : canon f = canon g := by
  obtain ⟨a, b, c, d, e, k, l⟩ := f
  obtain ⟨a', b', c', d', e', k', l'⟩ := g
  simp only [FV.s, Prod.mk.injEq] at h
  obtain ⟨rfl, rfl, rfl, rfl, rfl⟩ := h
  rfl
theorem canon_map : ∀ {l m : List FV}, l.map FV.s = m.map FV.s → l.map canon = m.map canon
  | [], [], _ => rfl
  | [], _ :: _, h => by cases h
  | _ :: _, [], h => by cases h
  | f :: l, g :: m, h => by
    simp only [List.map_cons, List.cons.injEq] at h ⊢
    exact ⟨canon_eq h.1, canon_map h.2⟩
theorem canon_s (l : List FV) : (l.map canon).map FV.s = l.map FV.s := by
  rw [List.map_map]; rfl
theorem cnt_canon (k : Int) (l : List FV) : cnt k (l.map canon) = cnt k l := by
  unfold cnt
  rw [List.filter_map, List.length_map]; rfl
theorem okB_canon (S : List SpV) (l : List FV) : okB S (l.map canon) = okB S l := by
  unfold okB specB oneB
  simp only [cnt_canon, List.all_map]
  rfl
theorem checkN_s {S : List SpV} {l m : List FV} (h : l.map FV.s = m.map FV.s) : checkN S l = checkN S m := by
  unfold checkN
  rw [s_may h, ← okB_canon S l, ← okB_canon S m, canon_map h]

/-- may a row be, but for its size -/
def chk : Option FV → List FV → Nat
  | _, [] => 0
  | p, f :: r => if aloneB f = false then 1 else if fallsB p f = true then 5 else if 16384 < f.len then 4 else chk (some f) r
theorem chk_scan : ∀ (l : List FV) (p : Option FV) (size : Nat), size + fsum l ≤ 16384 → mayScan p size l = chk p l
  | [], p, size, h => by
    rw [mayScan_nil, if_neg (by simp [fsum] at h; omega)]
    cases p <;> rfl
  | f :: r, p, size, h => by
    have e : chk p (f :: r) = if aloneB f = false then 1 else if fallsB p f = true then 5 else if 16384 < f.len then 4 else chk (some f) r := by cases p <;> rfl
    rw [mayScan_cons, e, chk_scan r (some f) (size + fsize f) (by simp only [fsum, List.map_cons, List.sum_cons] at h ⊢; omega)]
/-- a small field -/
def smallB (f : FV) : Bool := decide (1 ≤ f.num) && (decide (f.num ≤ 1000) && ((f.wire == 0 || f.wire == 2) && (decide (f.n ≤ 7) && decide (f.b.length ≤ 1))))
theorem small_size {f : FV} (h : smallB f = true) : fsize f ≤ 30 := by
  unfold smallB at h
  simp only [Bool.and_eq_true, Bool.or_eq_true, beq_iff_eq, decide_eq_true_eq] at h
  obtain ⟨h1, h2, h3, h4, h5⟩ := h
  unfold fsize fput
  rw [List.length_append]
  have hm : TagMay f.num.toNat f.wire.toNat := ⟨by omega, by omega, by omega⟩
  have e1 : (vput (8 * f.num.toNat + f.wire.toNat)).length ≤ 2 := by rw [tag_len hm]; split <;> omega
  have e2 : (vput f.n).length ≤ 10 := by rw [vput_len]; exact U64.size (by unfold U64; omega)
  have e3 : (vput f.b.length).length ≤ 10 := by rw [vput_len]; exact U64.size (by unfold U64; omega)
  split
  · omega
  · rw [List.length_append]; omega
theorem small_sum : ∀ {l : List FV}, (∀ f ∈ l, smallB f = true) → fsum l ≤ l.length * 30
  | [], _ => by simp [fsum]
  | f :: r, h => by
    have h1 := small_size (h f (List.mem_cons_self ..))
    have h2 := small_sum (l := r) fun x hx => h x (List.mem_cons_of_mem _ hx)
    simp only [fsum, List.map_cons, List.sum_cons, List.length_cons] at h2 ⊢
    omega
/-- what Check says of a row of small fields -/
def checkS (S : List SpV) (l : List FV) : Nat := if S = [] then 1 else if chk none l ≠ 0 then chk none l else if okB S l then 0 else 6
theorem check_small {S : List SpV} {l : List FV} (h : l.all smallB = true) (hl : l.length ≤ 20) : checkN S l = checkS S l := by
  have hs := small_sum (l := l) (List.all_eq_true.1 h)
  unfold checkN checkS fmay
  rw [chk_scan l none 0 (by omega)]

/-- the field of a spec: full, empty -/
def fullF (s : SpV) : FV := if s.wire = 2 then ⟨s.num, 2, 0, none, 1, 0, [1]⟩ else ⟨s.num, s.wire, 7, none, 0, 0, []⟩
def bareF (s : SpV) : FV := ⟨s.num, s.wire, 0, none, 0, 0, []⟩
/-- the four rows, of the first j specs -/
def rowW (S : List SpV) (j : Nat) : List FV := (S.take j).map fullF
def rowL (S : List SpV) (at_ j : Nat) : List FV := ((S.take j).mapIdx fun i s => if i = at_ then [] else [fullF s]).flatten
def rowN (S : List SpV) (at_ j : Nat) : List FV := (S.take j).mapIdx fun i s => if i = at_ then bareF s else fullF s
def rowT (S : List SpV) (at_ j : Nat) : List FV := ((S.take j).mapIdx fun i s => if i = at_ then [fullF s, fullF s] else [fullF s]).flatten
theorem mapIdx_snoc {α β : Type} (f : Nat → α → β) (S : List α) (j : Nat) (h : j < S.length) : (S.take (j + 1)).mapIdx f = (S.take j).mapIdx f ++ [f j S[j]] := by
  rw [List.take_succ_eq_append_getElem h, List.mapIdx_append]
  simp [List.length_take, show min j S.length = j by omega]
section
variable {S : List SpV} {at_ j : Nat} (h : j < S.length)
theorem rowW_snoc : rowW S (j + 1) = rowW S j ++ [fullF S[j]] := by
  unfold rowW; rw [List.take_succ_eq_append_getElem h, List.map_append, List.map_singleton]
theorem rowL_snoc : rowL S at_ (j + 1) = rowL S at_ j ++ if j = at_ then [] else [fullF S[j]] := by
  unfold rowL; rw [mapIdx_snoc _ _ _ h]; simp
theorem rowN_snoc : rowN S at_ (j + 1) = rowN S at_ j ++ [if j = at_ then bareF S[j] else fullF S[j]] := by
  unfold rowN; rw [mapIdx_snoc _ _ _ h]
theorem rowT_snoc : rowT S at_ (j + 1) = rowT S at_ j ++ if j = at_ then [fullF S[j], fullF S[j]] else [fullF S[j]] := by
  unfold rowT; rw [mapIdx_snoc _ _ _ h]; simp
end
/-- what holds of a record's specs at a place -/
def needsB (S : List SpV) (at_ : Nat) : Bool :=
  match S[at_]? with
  | none => false
  | some s =>
    (rowW S S.length).all smallB && (rowL S at_ S.length).all smallB && (rowN S at_ S.length).all smallB && (rowT S at_ S.length).all smallB && decide (S.length ≤ 10) &&
    (checkS S (rowW S S.length) == 0) && ((checkS S (rowL S at_ S.length) == 0) == !s.need) && (checkS S (rowN S at_ S.length) == 6) &&
    (if s.wire = 0 then checkS S (rowT S at_ S.length) == 5 else (decide (s.wire = 2) && ((checkS S (rowT S at_ S.length) == 0) == s.many)))
theorem needs_all : ((List.range 7).all fun k => (List.range 3).all fun v => decide (0 < (specL ((k : Int) + 1) ((v : Int) + 1)).length) && (List.range (specL ((k : Int) + 1) ((v : Int) + 1)).length).all fun a => needsB (specL ((k : Int) + 1) ((v : Int) + 1)) a) = true := by decide +kernel
theorem rows_len_at (S : List SpV) (at_ : Nat) : ∀ j, j ≤ S.length → (rowW S j).length ≤ 2 * j ∧ (rowL S at_ j).length ≤ 2 * j ∧ (rowN S at_ j).length ≤ 2 * j ∧ (rowT S at_ j).length ≤ 2 * j := by
  intro j
  induction j with
  | zero => intro _; simp [rowW, rowL, rowN, rowT]
  | succ j ih =>
    intro hj
    obtain ⟨i1, i2, i3, i4⟩ := ih (by omega)
    rw [rowW_snoc (by omega), rowL_snoc (by omega), rowN_snoc (by omega), rowT_snoc (by omega)]
    simp only [List.length_append, List.length_singleton]
    split <;> simp <;> omega
theorem rows_len (S : List SpV) (at_ : Nat) : (rowW S S.length).length ≤ 2 * S.length ∧ (rowL S at_ S.length).length ≤ 2 * S.length ∧ (rowN S at_ S.length).length ≤ 2 * S.length ∧ (rowT S at_ S.length).length ≤ 2 * S.length := by
  exact rows_len_at S at_ _ (Nat.le_refl _)
/-- the law, in plain words -/
theorem needs_at {k v : Nat} (hk : k < 7) (hv : v < 3) : 0 < (specL ((k : Int) + 1) ((v : Int) + 1)).length ∧ ∀ a (ha : a < (specL ((k : Int) + 1) ((v : Int) + 1)).length),
    let S := specL ((k : Int) + 1) ((v : Int) + 1)
    let s := S[a]
    checkN S (rowW S S.length) = 0 ∧ (s.need = false → checkN S (rowL S a S.length) = 0) ∧ (s.need = true → checkN S (rowL S a S.length) ≠ 0) ∧ checkN S (rowN S a S.length) = 6 ∧
      (s.wire = 0 ∧ checkN S (rowT S a S.length) = 5 ∨ s.wire = 2 ∧ (s.many = true → checkN S (rowT S a S.length) = 0) ∧ (s.many = false → checkN S (rowT S a S.length) ≠ 0)) := by
  have h := List.all_eq_true.1 (List.all_eq_true.1 needs_all k (List.mem_range.2 hk)) v (List.mem_range.2 hv)
  simp only [Bool.and_eq_true, decide_eq_true_eq] at h
  refine ⟨h.1, fun a ha => ?_⟩
  have h2 := List.all_eq_true.1 h.2 a (List.mem_range.2 ha)
  have hr := rows_len (specL ((k : Int) + 1) ((v : Int) + 1)) a
  clear h
  generalize specL ((k : Int) + 1) ((v : Int) + 1) = S at *
  unfold needsB at h2
  rw [List.getElem?_eq_getElem ha] at h2
  dsimp only at h2 ⊢
  simp only [Bool.and_eq_true, decide_eq_true_eq] at h2
  obtain ⟨⟨⟨⟨⟨⟨⟨⟨a1, a2⟩, a3⟩, a4⟩, a5⟩, b1⟩, b2⟩, b3⟩, b4⟩ := h2
  rw [check_small a1 (by omega), check_small a2 (by omega), check_small a3 (by omega), check_small a4 (by omega)]
  refine ⟨eq_of_beq b1, fun hn => ?_, fun hn => ?_, eq_of_beq b3, ?_⟩
  · rw [hn] at b2
    simpa using b2
  · rw [hn] at b2
    simpa using b2
  · by_cases hw : S[a].wire = 0
    · rw [if_pos hw] at b4
      exact .inl ⟨hw, eq_of_beq b4⟩
    · rw [if_neg hw] at b4
      simp only [Bool.and_eq_true, decide_eq_true_eq] at b4
      refine .inr ⟨b4.1, fun hn => ?_, fun hn => ?_⟩
      · have b5 := b4.2
        rw [hn] at b5
        simpa using b5
      · have b5 := b4.2
        rw [hn] at b5
        simpa using b5
end Go.Proofs.Ytjfohlnkdagjcaa
