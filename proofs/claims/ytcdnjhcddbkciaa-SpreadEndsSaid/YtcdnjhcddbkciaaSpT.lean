/- Two logs that are matched: plain words for the law SpreadEnds. -/
import Derived.Test.YtcdnjhcddbkciaaSpF
import Derived.Test.YtcdnjhcddbkciaaSpR
namespace Go.Proofs.Ytcdnjhcddbkciaa
open Go.RowKit

def GoodES (t : List EV) (j : Nat) : Prop := ∀ i, i < j → ∀ (h : i < t.length), 1 ≤ t[i].term ∧ t[i].term ≤ 1048576 ∧ t[i].len ≤ 200
theorem GoodES.succ {t : List EV} {j : Nat} (h : GoodES t j) (hj : j < t.length) (q1 : 1 ≤ t[j].term) (q2 : t[j].term ≤ 1048576) (q3 : t[j].len ≤ 200) : GoodES t (j + 1) := fun i hi hl => by
  rcases Nat.lt_or_ge i j with k | k
  · exact h i k hl
  · have : i = j := by omega
    subst this
    exact ⟨q1, q2, q3⟩
theorem GoodES.mem {t : List EV} (h : GoodES t t.length) : ∀ f ∈ t, 1 ≤ f.term ∧ f.term ≤ 1048576 ∧ f.len ≤ 200 := fun f hf => by
  obtain ⟨i, hi, rfl⟩ := List.getElem_of_mem hf
  exact h i hi hi
theorem behB_4S (t : List EV) (a : Nat) (h : a ≤ t.length) : behB t a 4 = (t.drop a).take (min 4 (t.length - a)) := by
  unfold behB
  rw [if_neg (by omega)]
  have e : (4 : Int).toNat = 4 := rfl
  have e2 : (a : Int).toNat = a := rfl
  rw [e, e2, List.take_eq_take_min, List.length_drop]
theorem makeY_goodS (floor vote : Int) (A1 : Option Addr) (m c1 : Nat) (t : List EV) (T0 k3 a b3 : Nat) (hT : T0 ≤ 1048575) (hk : k3 ≤ 3) (hb : b3 ≤ 2) (ha : a ≤ t.length) (hm : t.length ≤ 60) (hg : GoodES t t.length) :
    mayB (makeY ⟨floor, 1 + (T0 : Int), vote, A1, m, c1, t⟩ 0 (1 + (k3 : Int)) a 0 (1 + (b3 : Int)) none 0) = true := by
  have hte : 0 ≤ termB t a ∧ termB t a ≤ 1048576 := by
    rcases Nat.eq_zero_or_pos a with rfl | h0
    · rw [show ((0 : Nat) : Int) = 0 from rfl, termB_zero]; omega
    · obtain ⟨i, rfl⟩ : ∃ i, a = i + 1 := ⟨a - 1, by omega⟩
      have := hg i (by omega) (by omega)
      rw [show ((i + 1 : Nat) : Int) = (i : Int) + 1 by omega, termB_at t i (by omega)]
      omega
  have hl : (behB t a 4).length ≤ 4 := by rw [behB_4S t a ha, List.length_take]; omega
  have he : entsB (behB t a 4) = true := by
    have hmem := behB_mem2 t a 4
    generalize behB t a 4 = bl at *
    unfold entsB
    rw [List.all_eq_true]
    intro f hf
    obtain ⟨q1, q2, q3⟩ := hg.mem f (hmem f hf)
    simp [inB]
    omega
  unfold mayB makeY
  dsimp only
  rw [he]
  generalize (behB t a 4).length = n at *
  generalize termB t a = te at *
  simp [inB]
  omega

/-- where entries of one number have one term, all up to there is alike -/
def PM (o l : List EV) : Prop := ∀ i, i < o.length → i < l.length → tm o i = tm l i → (o.take (i + 1)).map EV.p = (l.take (i + 1)).map EV.p
theorem tm_p (o : List EV) (i : Nat) : tm o i = (((o.map EV.p)[i]?).map Prod.fst).getD 0 := by
  unfold tm
  rw [List.getElem?_map, Option.map_map]; rfl
theorem take_p {o o' : List EV} (h : o.map EV.p = o'.map EV.p) (n : Nat) : (o.take n).map EV.p = (o'.take n).map EV.p := by
  rw [List.map_take, h, ← List.map_take]
theorem len_p {o o' : List EV} (h : o.map EV.p = o'.map EV.p) : o.length = o'.length := by have := congrArg List.length h; simpa using this
theorem PM.congr {o o' l : List EV} (h : PM o l) (e : o'.map EV.p = o.map EV.p) : PM o' l := fun i h1 h2 h3 => by
  rw [take_p e]
  refine h i (by rw [← len_p e]; exact h1) h2 ?_
  rw [tm_p, ← e, ← tm_p]; exact h3
theorem PM.prefix_ {o l : List EV} {n : Nat} (e : o.map EV.p = (l.take n).map EV.p) : PM o l := fun i h1 h2 _ => by
  have hl := len_p e
  rw [List.length_take] at hl
  rw [take_p e, List.take_take, Nat.min_eq_left (by omega)]
theorem kept_PM {o l : List EV} {a m : Nat} (h : PM o l) (ha : (o.take a).map EV.p = (l.take a).map EV.p) (hao : a ≤ o.length) (hal : a ≤ l.length) :
    PM (keptL o ((l.drop a).take m) a) l ∧ ((keptL o ((l.drop a).take m) a).take (a + ((l.drop a).take m).length)).map EV.p = (l.take (a + ((l.drop a).take m).length)).map EV.p ∧
    (keptL o ((l.drop a).take m) a).length ≤ max o.length (a + ((l.drop a).take m).length) := by
  have hx : ∀ i, (l.drop a).take m = ((l.drop a).take m).take i ++ ((l.drop a).take m).drop i := fun i => (List.take_append_drop i _).symm
  have hxl : ((l.drop a).take m).length ≤ l.length - a := by rw [List.length_take, List.length_drop]; omega
  have hxt : ∀ j, j < ((l.drop a).take m).length → tm ((l.drop a).take m) j = tm l (a + j) := fun j hj => by
    rw [tm_take (by rw [List.length_take] at hj; omega), tm_drop]
  have hlx : l.take (a + ((l.drop a).take m).length) = l.take a ++ (l.drop a).take m := by
    rw [List.take_add]
    congr 1
    rw [List.length_take, ← List.take_eq_take_min]
  obtain ⟨i, h1, h2, h3, h4⟩ := mrgB_cases ((l.drop a).take m) (o.drop a) a
  rw [List.length_drop] at h2
  have hk : (o.take (a + i)).map EV.p = (l.take (a + i)).map EV.p := by
    rcases Nat.eq_zero_or_pos i with rfl | h0
    · exact ha
    · have e := h (a + (i - 1)) (by omega) (by omega) (by
        have := h3 (i - 1) (by omega)
        rw [tm_drop, hxt _ (by omega)] at this
        exact this)
      rw [show a + (i - 1) + 1 = a + i by omega] at e
      exact e
  have hme := mergeB_nat o ((l.drop a).take m) a hao
  have full : ∀ k : List EV, k.map EV.p = (o.take (a + i)).map EV.p ++ (((l.drop a).take m).drop i).map EV.p → k.map EV.p = (l.take (a + ((l.drop a).take m).length)).map EV.p := fun k hq => by
    rw [hq, hk, hlx, ← List.map_append]
    congr 1
    rw [List.take_add, List.append_assoc]
    congr 1
    conv => rhs; rw [hx i]
    congr 1
    rw [List.take_take, Nat.min_eq_left (by rw [List.length_take] at h1; omega)]
  have fin : ∀ k : List EV, k.map EV.p = (l.take (a + ((l.drop a).take m).length)).map EV.p → PM k l ∧ (k.take (a + ((l.drop a).take m).length)).map EV.p = (l.take (a + ((l.drop a).take m).length)).map EV.p ∧ k.length ≤ max o.length (a + ((l.drop a).take m).length) := fun k hq => by
    refine ⟨PM.prefix_ hq, ?_, ?_⟩
    · rw [take_p hq, List.take_take, Nat.min_self]
    · have := len_p hq
      rw [List.length_take] at this
      omega
  rcases h4 with ⟨k1, k2⟩ | ⟨k1, k2, k3⟩ | ⟨k1, k2, k3⟩
  · have e : keptL o ((l.drop a).take m) a = o := by
      unfold keptL
      rw [hme, k2]
      simp [keepN]
    rw [e]
    exact ⟨h, by rw [← k1]; exact hk, by omega⟩
  · rw [List.length_drop] at k2
    refine fin _ (full _ ?_)
    unfold keptL
    rw [hme, k3]
    simp only [keepN, if_pos, List.take_length, List.map_append]
    rw [show o.take (a + i) = o from List.take_of_length_le (by omega)]
  · rw [List.length_drop] at k2
    refine fin _ (full _ ?_)
    unfold keptL
    rw [hme, k3]
    simp only [keepN, List.map_append]
    rw [if_neg (by omega), Nat.add_sub_cancel]
theorem PM.at_ {o l : List EV} {a : Nat} (h : PM o l) (hal : a ≤ l.length) (hp : ∀ f ∈ l, 1 ≤ f.term) (e : termB o a = termB l a) : a ≤ o.length ∧ (o.take a).map EV.p = (l.take a).map EV.p := by
  rcases Nat.eq_zero_or_pos a with rfl | h0
  · simp
  · obtain ⟨i, rfl⟩ : ∃ i, a = i + 1 := ⟨a - 1, by omega⟩
    have hil : i < l.length := by omega
    have h1 : termB l ((i + 1 : Nat) : Int) = l[i].term := by
      rw [show ((i + 1 : Nat) : Int) = (i : Int) + 1 by omega]; exact termB_at l i hil
    have hpos := hp l[i] (List.getElem_mem _)
    have hio : i < o.length := by
      have := termB_in (l := o) (a := ((i + 1 : Nat) : Int)) (by omega) (by rw [e, h1]; omega)
      omega
    have h2 : termB o ((i + 1 : Nat) : Int) = o[i].term := by
      rw [show ((i + 1 : Nat) : Int) = (i : Int) + 1 by omega]; exact termB_at o i hio
    refine ⟨by omega, h i hio hil ?_⟩
    rw [tm_at hio, tm_at hil, ← h2, ← h1, e]
theorem termB_p {o o' : List EV} (h : o.map EV.p = o'.map EV.p) (a : Int) : termB o a = termB o' a := by
  unfold termB
  have : o[(a - 1).toNat]?.map EV.term = o'[(a - 1).toNat]?.map EV.term := by
    have := congrArg (fun m => (m[(a - 1).toNat]?).map Prod.fst) h
    simp only [List.getElem?_map, Option.map_map] at this
    exact this
  cases h1 : o[(a - 1).toNat]? <;> cases h2 : o'[(a - 1).toNat]? <;> rw [h1, h2] at this <;> simp at this <;> simp [this]
theorem termB_take {o l : List EV} {a : Nat} (hal : a ≤ l.length) (hao : a ≤ o.length) (e : (o.take a).map EV.p = (l.take a).map EV.p) : termB o a = termB l a := by
  rcases Nat.eq_zero_or_pos a with rfl | h0
  · rfl
  · have h1 : ∀ q : List EV, a ≤ q.length → termB q a = termB (q.take a) a := fun q hq => by
      unfold termB
      rw [if_neg (by omega), if_neg (by omega), if_neg (by omega), if_neg (by omega), List.getElem?_take_of_lt (by omega)]
    rw [h1 o hao, h1 l hal, termB_p e]
/-- how far two logs have come -/
structure EndI (l o : List EV) (i done a : Nat) : Prop where
  pm : PM o l
  ol : o.length ≤ 24
  al : a ≤ l.length
  dl : done ≤ l.length
  do_ : done ≤ o.length
  pre : (o.take done).map EV.p = (l.take done).map EV.p
  st : (done = 0 ∧ i = 0 ∧ a = l.length) ∨ (done = 0 ∧ i ≤ 1 ∧ a = 0) ∨ (1 ≤ done ∧ a = done ∧ i ≤ 1 + done)
theorem EndI.no {l o o' : List EV} {i done a : Nat} (h : EndI l o i done a) (hn : termB o a ≠ termB l a) (e : o'.map EV.p = o.map EV.p) : EndI l o' (i + 1) done 0 ∧ done = 0 := by
  have h0 : termB o ((0 : Nat) : Int) = termB l ((0 : Nat) : Int) := rfl
  have hd : done = 0 ∧ i = 0 := by
    rcases h.st with ⟨h1, h2, _⟩ | ⟨_, _, h3⟩ | ⟨_, h2, _⟩
    · exact ⟨h1, h2⟩
    · subst h3; exact absurd h0 hn
    · subst h2; exact absurd (termB_take h.dl h.do_ h.pre) hn
  obtain ⟨rfl, rfl⟩ := hd
  have hl := len_p e
  exact ⟨⟨h.pm.congr e, by have := h.ol; omega, by omega, by omega, by omega, by simp, .inr (.inl ⟨rfl, by omega, rfl⟩)⟩, rfl⟩
theorem EndI.yes {l o o' : List EV} {i done a : Nat} (h : EndI l o i done a) (hp : ∀ f ∈ l, 1 ≤ f.term) (hl : l.length ≤ 12) (hd : done < l.length) (hy : termB o a = termB l a)
    (e : o'.map EV.p = (keptL o (behB l a 4) a).map EV.p) : EndI l o' (i + 1) (a + (behB l a 4).length) (a + (behB l a 4).length) := by
  obtain ⟨hao, ha⟩ := h.pm.at_ h.al hp hy
  have hb : behB l a 4 = (l.drop a).take (min 4 (l.length - a)) := behB_4S l a h.al
  obtain ⟨k1, k2, k3⟩ := kept_PM (m := min 4 (l.length - a)) h.pm ha hao h.al
  obtain ⟨f1, _, _, _, _⟩ := kept_facts o (behB l a 4) o' a hao e
  rw [← hb] at k1 k2 k3
  have hbl : (behB l a 4).length = min 4 (l.length - a) := by rw [hb, List.length_take, List.length_drop]; omega
  have hle := len_p e
  have hal := h.al
  have hol := h.ol
  refine ⟨k1.congr e, by omega, by omega, by omega, by omega, by rw [take_p e]; exact k2, .inr (.inr ⟨?_, rfl, ?_⟩)⟩
  · rcases h.st with ⟨h1, h2, h3⟩ | ⟨h1, h2, h3⟩ | ⟨h1, h2, h3⟩ <;> omega
  · rcases h.st with ⟨h1, h2, h3⟩ | ⟨h1, h2, h3⟩ | ⟨h1, h2, h3⟩ <;> omega
end Go.Proofs.Ytcdnjhcddbkciaa
