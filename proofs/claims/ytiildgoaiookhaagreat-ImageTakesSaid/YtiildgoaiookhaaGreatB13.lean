/- Words and walks that the last text of this claim stands on: PlF, LpN, PlG, LpE, FormC, ChkB. No condition. -/
import Derived.Test.YtiildgoaiookhaaGreatB10
import Derived.Test.YtiildgoaiookhaaGreatB11
import Derived.Test.YtiildgoaiookhaaGreatB12
import Derived.Test.YtiildgoaiookhaaGreatB03
import Derived.Test.YtiildgoaiookhaaGreatB06
import Derived.Test.YtiildgoaiookhaaGreatB01
import Derived.BigGuardPart
/- The fields of a letter and of an entry: plain. -/
namespace Go.Proofs.YtiildgoaiookhaaGreat
open Go.RowKit

/-- the fields of numbers from the k-th on: those that are not nought -/
def numF : Nat → List Int → List FV
  | _, [] => []
  | k, n :: r => (if n = 0 then [] else [tfv k 0 n.toNat []]) ++ numF (k + 1) r
theorem numF_nil (k : Nat) : numF k [] = [] := rfl
theorem numF_cons (k : Nat) (n : Int) (r : List Int) : numF k (n :: r) = (if n = 0 then [] else [tfv k 0 n.toNat []]) ++ numF (k + 1) r := rfl
theorem numF_snoc : ∀ (l : List Int) (k : Nat) (n : Int), numF k (l ++ [n]) = numF k l ++ (if n = 0 then [] else [tfv (k + l.length) 0 n.toNat []])
  | [], k, n => by simp [numF]
  | a :: r, k, n => by
    rw [List.cons_append, numF_cons, numF_cons, numF_snoc r (k + 1) n, List.append_assoc]
    rw [show k + 1 + r.length = k + (a :: r).length by simp; omega]
theorem numF_take (l : List Int) (j : Nat) (h : j < l.length) : numF 1 (l.take (j + 1)) = numF 1 (l.take j) ++ (if l[j] = 0 then [] else [tfv (j + 1) 0 l[j].toNat []]) := by
  rw [List.take_succ_eq_append_getElem h, numF_snoc]
  rw [show 1 + (l.take j).length = j + 1 by rw [List.length_take]; omega]
theorem numF_len : ∀ (l : List Int) (k : Nat), (numF k l).length ≤ l.length
  | [], _ => Nat.le_refl _
  | a :: r, k => by
    have := numF_len r (k + 1)
    rw [numF_cons, List.length_append, List.length_cons]
    split <;> simp <;> omega
theorem numF_mem : ∀ (l : List Int) (k : Nat), ∀ f ∈ numF k l, ∃ i, ∃ h : i < l.length, l[i] ≠ 0 ∧ f = tfv (k + i) 0 l[i].toNat []
  | [], _, f, hf => by simp [numF] at hf
  | a :: r, k, f, hf => by
    rw [numF_cons] at hf
    rcases List.mem_append.1 hf with hf | hf
    · by_cases ha : a = 0
      · rw [if_pos ha] at hf; simp at hf
      · rw [if_neg ha] at hf
        simp only [List.mem_singleton] at hf
        exact ⟨0, by simp, by simpa using ha, by simpa using hf⟩
    · obtain ⟨i, h, h1, h2⟩ := numF_mem r (k + 1) f hf
      exact ⟨i + 1, by simpa using h, by simpa using h1, by rw [h2]; simp; congr 1; omega⟩

/-- the fields of an entry -/
def entF (y : EV) : List FV := numF 1 [y.term] ++ (if y.b = [] then [] else [tfv 2 2 0 y.b])
/-- the numbers of a letter -/
def letN (x : LV) : List Int := [x.kind, x.src + 1, x.dst + 1, x.term, x.bin, x.a, x.b, x.c, if x.ok then 1 else 0]
/-- the fields of a letter -/
def letF (x : LV) : List FV := numF 1 (letN x) ++ x.l.map fun y => tfv 10 2 0 (rput (entF y))
/-- has a row a field that a letter of this version may have -/
def lowB (rest : List FV) : Bool := rest.any fun f => decide (f.num ≤ 10)
/-- what letter.Put says -/
def lput (x : LV) (rest : List FV) : List UInt8 × Nat :=
  if mayB x = false then ([], 1) else if lowB rest = true then ([], 6) else
  if fmay (letF x ++ rest) = 0 then (rput (letF x ++ rest), 0) else ([], fmay (letF x ++ rest))

/-! that a row may be -/
theorem tfv_s (num wire n : Nat) (b : List UInt8) : (tfv num wire n b).s = ((num : Int), (wire : Int), n, b.length, b) := rfl
theorem alone_n {k n : Nat} (h1 : 1 ≤ k) (h2 : k ≤ 1000) : aloneB (tfv k 0 n []) = true :=
  tfv_alone ⟨h1, h2, .inl rfl⟩ (fun _ => rfl) (fun h => by cases h)
theorem alone_b {k : Nat} {b : List UInt8} (h1 : 1 ≤ k) (h2 : k ≤ 1000) : aloneB (tfv k 2 0 b) = true :=
  tfv_alone ⟨h1, h2, .inr rfl⟩ (fun h => by cases h) (fun _ => rfl)
theorem size_n {k n : Nat} (h1 : 1 ≤ k) (h2 : k ≤ 1000) (hn : U64 n) : fsize (tfv k 0 n []) ≤ 12 := by
  unfold fsize tfv fput
  simp only [Int.toNat_natCast, if_true]
  rw [List.length_append]
  have h := tag_len (show TagMay k 0 from ⟨h1, h2, .inl rfl⟩)
  have hv : (vput n).length ≤ 10 := by rw [vput_len]; exact hn.size
  have : (vput (8 * k + 0)).length ≤ 2 := by rw [h]; split <;> omega
  simp only [Nat.add_zero] at this ⊢
  omega
theorem size_b {k : Nat} {b : List UInt8} (h1 : 1 ≤ k) (h2 : k ≤ 1000) (hb : b.length ≤ 16384) : fsize (tfv k 2 0 b) ≤ 12 + b.length := by
  unfold fsize tfv fput
  simp only [Int.toNat_natCast]
  rw [if_neg (by decide), List.length_append, List.length_append]
  have h := tag_len (show TagMay k 2 from ⟨h1, h2, .inr rfl⟩)
  have hv : (vput b.length).length ≤ 10 := by rw [vput_len]; exact U64.size (by unfold U64; omega)
  have : (vput (8 * k + 2)).length ≤ 2 := by rw [h]; split <;> omega
  omega
end Go.Proofs.YtiildgoaiookhaaGreat

/- The walk of letter.numbers. -/
namespace Go.Proofs.YtiildgoaiookhaaGreat
open Go.RowKit

theorem numF_ok : ∀ (l : List Int) (k : Nat) (w : World), (∀ x ∈ l, 0 ≤ x ∧ x ≤ 4611686018427387904) → ∀ f ∈ numF k l, f.Ok w := by
  intro l k w h f hf
  obtain ⟨i, hi, h1, rfl⟩ := numF_mem l k f hf
  have := h l[i] (List.getElem_mem _)
  exact ⟨Bs.nil_ _ _, Nat.le_refl _, by simp [tfv, maxLen], by simp only [tfv, U64]; omega⟩
end Go.Proofs.YtiildgoaiookhaaGreat

/- That the fields of an entry, and of a letter, may be a row: plain. -/
namespace Go.Proofs.YtiildgoaiookhaaGreat
open Go.RowKit

/-- none of a row falls behind what stands ahead of it -/
def okChain : Option FV → List FV → Prop
  | _, [] => True
  | p, f :: r => fallsB p f = false ∧ okChain (some f) r
theorem may_chain : ∀ (l : List FV) (p : Option FV) (size : Nat), okChain p l → (∀ f ∈ l, aloneB f = true ∧ f.len ≤ 16384) → size + fsum l ≤ 16384 → mayScan p size l = 0
  | [], p, size, _, _, h => by rw [mayScan_nil, if_neg (by simp [fsum] at h; omega)]
  | f :: r, p, size, hc, ha, h => by
    have e : fsum (f :: r) = fsize f + fsum r := by simp [fsum]
    exact scan_mk (ha f (by simp)).1 hc.1 (ha f (by simp)).2 (may_chain r (some f) _ hc.2 (fun g hg => ha g (by simp [hg])) (by omega))
theorem chain_scan : ∀ (l : List FV) (p : Option FV) (size : Nat), mayScan p size l = 0 → okChain p l
  | [], _, _, _ => trivial
  | f :: r, p, size, h => by
    obtain ⟨_, h2, _, h4⟩ := scan_head h
    exact ⟨h2, chain_scan r _ _ h4⟩
theorem rises_lt {a f : FV} (h : a.num < f.num) : fallsB (some a) f = false := by
  simp only [fallsB, risesB]
  rw [if_neg (by omega)]
  simp [h]
theorem falls_lt {p : Option FV} {f : FV} (h : ∀ a, p = some a → a.num < f.num) : fallsB p f = false := by
  rcases p with _ | a
  · rfl
  · exact rises_lt (h a rfl)
theorem numF_chain : ∀ (l : List Int) (k : Nat) (p : Option FV) (t : List FV), (∀ a, p = some a → a.num < k) → (∀ q : Option FV, (∀ a, q = some a → a.num < (k + l.length : Nat)) → okChain q t) → okChain p (numF k l ++ t)
  | [], k, p, t, hp, ht => by simpa [numF] using ht p (by simpa using hp)
  | n :: r, k, p, t, hp, ht => by
    rw [numF_cons]
    by_cases hn : n = 0
    · rw [if_pos hn, List.nil_append]
      exact numF_chain r (k + 1) p t (fun a ha => by have := hp a ha; omega) (fun q hq => ht q (fun a ha => by have := hq a ha; simp only [List.length_cons]; omega))
    · rw [if_neg hn, List.append_assoc]
      refine ⟨falls_lt (fun a ha => by simpa [tfv] using hp a ha), ?_⟩
      exact numF_chain r (k + 1) _ t (fun a ha => by injection ha with ha; subst ha; simp only [tfv]; omega) (fun q hq => ht q (fun a ha => by have := hq a ha; simp only [List.length_cons]; omega))
theorem many_chain (k : Nat) : ∀ (l : List (List UInt8)) (p : Option FV), (∀ a, p = some a → a.num < k ∨ a.num = k ∧ a.wire = 2) → okChain p (l.map fun b => tfv k 2 0 b)
  | [], _, _ => trivial
  | b :: r, p, hp => by
    refine ⟨?_, many_chain k r _ (fun a ha => by injection ha with ha; subst ha; exact .inr ⟨rfl, rfl⟩)⟩
    rcases p with _ | a
    · rfl
    · rcases hp a rfl with h | ⟨h, h2⟩
      · exact rises_lt (by simpa [tfv] using h)
      · show (!risesB a (tfv k 2 0 b)) = false
        have hr : risesB a (tfv k 2 0 b) = ((2 : Int) == 2 && a.wire == 2) := by unfold risesB; exact if_pos h.symm
        rw [hr, h2]; rfl
theorem fsum_append (l m : List FV) : fsum (l ++ m) = fsum l + fsum m := by simp [fsum]
theorem numF_sum : ∀ (l : List Int) (k : Nat), 1 ≤ k → k + l.length ≤ 1000 → (∀ x ∈ l, 0 ≤ x ∧ x ≤ 4611686018427387904) → fsum (numF k l) ≤ 12 * l.length
  | [], _, _, _, _ => by simp [numF, fsum]
  | n :: r, k, h1, h2, h => by
    have ih := numF_sum r (k + 1) (by omega) (by simp at h2; omega) (fun x hx => h x (by simp [hx]))
    rw [numF_cons, fsum_append, List.length_cons]
    by_cases hn : n = 0
    · rw [if_pos hn]; simp [fsum] at ih ⊢; omega
    · rw [if_neg hn]
      have hb := h n (by simp)
      have := size_n (k := k) (n := n.toNat) h1 (by simp at h2; omega) (by unfold U64; omega)
      simp [fsum] at ih ⊢; omega
theorem numF_alone (l : List Int) (k : Nat) (h1 : 1 ≤ k) (h2 : k + l.length ≤ 1000) : ∀ f ∈ numF k l, aloneB f = true ∧ f.len ≤ 16384 := by
  intro f hf
  obtain ⟨i, hi, _, rfl⟩ := numF_mem l k f hf
  exact ⟨alone_n (by omega) (by omega), by simp [tfv]⟩

theorem rput_nil : rput [] = [] := rfl
theorem rput_app (l m : List FV) : rput (l ++ m) = rput l ++ rput m := by simp [rput]
/-- an entry that may be -/
structure EntOk (y : EV) : Prop where
  t1 : 1 ≤ y.term
  t2 : y.term ≤ 1048576
  b : y.b.length ≤ 200
theorem ent_may {y : EV} (h : EntOk y) : fmay (entF y) = 0 ∧ (rput (entF y)).length ≤ 224 := by
  have hnum : ∀ x ∈ [y.term], 0 ≤ x ∧ x ≤ 4611686018427387904 := by
    intro x hx; simp at hx; subst hx; exact ⟨by have := h.t1; omega, by have := h.t2; omega⟩
  have hs := numF_sum [y.term] 1 (by omega) (by simp) hnum
  have ha := numF_alone [y.term] 1 (by omega) (by simp)
  have hl := h.b
  have hsz := size_b (k := 2) (b := y.b) (by omega) (by omega) (by omega)
  simp only [List.length_cons, List.length_nil] at hs
  rw [rput_len]
  unfold entF fmay
  split
  · rw [List.append_nil]
    refine ⟨may_chain _ none 0 ?_ ha (by omega), by omega⟩
    have := numF_chain [y.term] 1 none [] (by simp) (fun _ _ => trivial)
    simpa using this
  · rw [fsum_append]
    have e : fsum [tfv 2 2 0 y.b] = fsize (tfv 2 2 0 y.b) := by simp [fsum]
    refine ⟨may_chain _ none 0 (numF_chain _ 1 none _ (by simp) (fun q hq => ⟨falls_lt (fun a ha => by have := hq a ha; simpa [tfv] using this), trivial⟩)) ?_ (by rw [fsum_append]; omega), by omega⟩
    intro f hf
    rcases List.mem_append.1 hf with hf | hf
    · exact ha f hf
    · simp only [List.mem_singleton] at hf
      subst hf
      exact ⟨alone_b (by omega) (by omega), by simp only [tfv]; omega⟩
theorem ent_ne {y : EV} (h : EntOk y) : rput (entF y) ≠ [] := by
  intro e
  have h2 := congrArg List.length e
  unfold entF at h2
  rw [numF_cons, if_neg (by have := h.t1; omega)] at h2
  simp [rput, fbytes, fput, tfv] at h2
  have h4 : (vput 8).length = 0 := by rw [h2.1]; rfl
  rw [vput_len] at h4
  have := vsize_pos 8
  omega
theorem mayB_parts {x : LV} (h : mayB x = true) : (x.kind = 1 ∨ x.kind = 2 ∨ x.kind = 3 ∨ x.kind = 4) ∧ (0 ≤ x.src ∧ x.src ≤ 4) ∧ (0 ≤ x.dst ∧ x.dst ≤ 4) ∧ x.src ≠ x.dst ∧ (1 ≤ x.term ∧ x.term ≤ 1048576) ∧ (1 ≤ x.bin ∧ x.bin ≤ 3) ∧
    (0 ≤ x.a ∧ x.a ≤ 64) ∧ (0 ≤ x.b ∧ x.b ≤ 1048576) ∧ (0 ≤ x.c ∧ x.c ≤ 64) ∧ (x.n ≤ 4) ∧ entsB x.l = true := by
  unfold mayB at h
  simp only [Bool.and_eq_true, inB_t, Bool.or_eq_true, beq_iff_eq, bne_iff_ne] at h
  obtain ⟨⟨⟨⟨⟨⟨⟨⟨⟨⟨⟨h1, h2⟩, h3⟩, h4⟩, h5⟩, h6⟩, h7⟩, h8⟩, h9⟩, h10⟩, h11⟩, h12⟩ := h
  refine ⟨by omega, h2, h3, h4, h5, h6, ⟨h7.1, ?_⟩, ⟨h8.1, ?_⟩, ⟨h9.1, ?_⟩, ?_, h12⟩
  · have := h7.2; split at this <;> omega
  · have := h8.2; split at this <;> omega
  · have := h9.2; split at this <;> omega
  · have := h11.2; split at this <;> omega
theorem entsB_ok {l : List EV} (h : entsB l = true) (hb : ∀ y ∈ l, y.b.length = y.len) : ∀ y ∈ l, EntOk y := by
  intro y hy
  have := List.all_eq_true.1 h y hy
  simp only [Bool.and_eq_true, inB_t, decide_eq_true_eq] at this
  exact ⟨this.1.1, this.1.2, by rw [hb y hy]; exact this.2⟩
theorem letN_bd {x : LV} (h : mayB x = true) : ∀ n ∈ letN x, 0 ≤ n ∧ n ≤ 4611686018427387904 := by
  obtain ⟨h1, h2, h3, _, h4, h5, h6, h7, h8, _⟩ := mayB_parts h
  intro n hn
  simp only [letN, List.mem_cons, List.not_mem_nil, or_false] at hn
  rcases hn with rfl | rfl | rfl | rfl | rfl | rfl | rfl | rfl | rfl
  all_goals first | omega | (split <;> omega)
theorem many_sum (k : Nat) (h1 : 1 ≤ k) (h2 : k ≤ 1000) : ∀ (l : List (List UInt8)), (∀ b ∈ l, b.length ≤ 224) → fsum (l.map fun b => tfv k 2 0 b) ≤ 236 * l.length
  | [], _ => by simp [fsum]
  | b :: r, h => by
    have ih := many_sum k h1 h2 r (fun c hc => h c (by simp [hc]))
    have hb := h b (by simp)
    have := size_b (k := k) (b := b) h1 h2 (by omega)
    simp [fsum] at ih ⊢; omega
theorem letF_eq (x : LV) : letF x = numF 1 (letN x) ++ (x.l.map fun y => rput (entF y)).map fun b => tfv 10 2 0 b := by
  unfold letF; rw [List.map_map]; rfl
/-- a letter that may be has a row that may be -/
theorem let_may {x : LV} (h : mayB x = true) (hb : ∀ y ∈ x.l, y.b.length = y.len) (hl : x.l.length = x.n) : fmay (letF x) = 0 := by
  obtain ⟨_, _, _, _, _, _, _, _, _, hn, he⟩ := mayB_parts h
  have hok := entsB_ok he hb
  have hs := numF_sum (letN x) 1 (by omega) (by simp [letN]) (letN_bd h)
  have ha := numF_alone (letN x) 1 (by omega) (by simp [letN])
  have hlen : (letN x).length = 9 := rfl
  have hm := many_sum 10 (by omega) (by omega) (x.l.map fun y => rput (entF y)) (by
    intro b hb
    obtain ⟨y, hy, rfl⟩ := List.mem_map.1 hb
    exact (ent_may (hok y hy)).2)
  rw [List.length_map] at hm
  rw [letF_eq]
  refine may_chain _ none 0 (numF_chain _ 1 none _ (by simp) (fun q hq => many_chain 10 _ q (fun a ha => .inl (by have := hq a ha; rw [hlen] at this; omega)))) ?_ (by rw [fsum_append]; omega)
  intro f hf
  rcases List.mem_append.1 hf with hf | hf
  · exact ha f hf
  · obtain ⟨b, hb, rfl⟩ := List.mem_map.1 hf
    obtain ⟨y, hy, rfl⟩ := List.mem_map.1 hb
    have := (ent_may (hok y hy)).2
    exact ⟨alone_b (by omega) (by omega), by simp only [tfv]; omega⟩
end Go.Proofs.YtiildgoaiookhaaGreat

/- The walk of letter.putEntry. -/
namespace Go.Proofs.YtiildgoaiookhaaGreat
open Go.RowKit

theorem is_lit (w : World) (l : List Int) (cs : Array Value) (t : TypeId) (n k : Nat) (h : cs.toList = l.map (Value.int .i64)) (hn : l.length = n) (hk : k = w.heap.size) : Is (w.alloc (.cells cs t)) (some ⟨k, 0, none⟩) n l := by
  subst hk
  have := Rd.block w cs t n (size := 1) (by have := congrArg List.length h; simp at this; omega)
  rw [h] at this
  exact this
theorem numF_fs {w : World} {B : Nat} {A : Option Addr} {n c : Nat} {l : List Int} (h : w.ownsRow B 54 4 (.slice A n c) n (rowOf (numF 1 l))) (hl : ∀ x ∈ l, 0 ≤ x ∧ x ≤ 4611686018427387904) : Fs w A n (numF 1 l) :=
  Fs.of_own h (numF_ok l 1 w hl)
/-- the fields of an entry in memory -/
def entM (y : EV) : List FV := numF 1 [y.term] ++ (if y.b = [] then [] else [⟨2, 2, 0, y.A, y.len, y.cap, y.b⟩])
theorem entM_s {y : EV} (h : y.b.length = y.len) : (entM y).map FV.s = (entF y).map FV.s := by
  unfold entM entF
  rw [List.map_append, List.map_append]
  congr 1
  split
  · rfl
  · simp [FV.s, tfv, h]
theorem entM_ok {y : EV} {w : World} (h : y.Ok w) (he : EntOk y) : ∀ f ∈ entM y, f.Ok w := by
  intro f hf
  rcases List.mem_append.1 hf with hf | hf
  · exact numF_ok [y.term] 1 w (by intro x hx; simp at hx; subst hx; exact ⟨by have := he.t1; omega, by have := he.t2; omega⟩) f hf
  · split at hf
    · simp at hf
    · simp only [List.mem_singleton] at hf
      subst hf
      exact ⟨h.bs, h.le, h.cap, show (0 : Nat) < 18446744073709551616 by decide⟩
theorem numF_one {t : Int} (h : 1 ≤ t) : (numF 1 [t]).length = 1 := by
  rw [numF_cons, if_neg (by omega)]; rfl
end Go.Proofs.YtiildgoaiookhaaGreat

/- The walks of the reference's specs, and of the laws' head of layer 4. -/
namespace Go.Proofs.YtiildgoaiookhaaGreat
open Go.RowKit

set_option maxRecDepth 100000 in
theorem ref04_number (num since : Int) (need : Bool) (w : World) : Calls Tryz.prog 102 #[.int .i64 num, .int .i64 since, .bool need] w fun e w' => e = .returned (.agg #[.int .i64 num, .int .i64 0, .int .i64 since, .bool need, .bool false]) ∧ Ext w w' := by
  go_enter Tryz.func102, Tryz.ntmps102
  go_wp2
  refine bodyPost_ret (v := .agg #[.int .i64 num, .int .i64 0, .int .i64 since, .bool need, .bool false]) (by simp [results, Tryz.results102, go_sem]) rfl ⟨rfl, ?_⟩
  repeat (refine Ext.setCell ?_ (by simp) _)
  exact (Ext.refl w).alloc _
set_option maxRecDepth 100000 in
theorem ref04_bytes (num since : Int) (need many : Bool) (w : World) : Calls Tryz.prog 103 #[.int .i64 num, .int .i64 since, .bool need, .bool many] w fun e w' => e = .returned (.agg #[.int .i64 num, .int .i64 2, .int .i64 since, .bool need, .bool many]) ∧ Ext w w' := by
  go_enter Tryz.func103, Tryz.ntmps103
  go_wp2
  refine bodyPost_ret (v := .agg #[.int .i64 num, .int .i64 2, .int .i64 since, .bool need, .bool many]) (by simp [results, Tryz.results103, go_sem]) rfl ⟨rfl, ?_⟩
  repeat (refine Ext.setCell ?_ (by simp) _)
  exact (Ext.refl w).alloc _

set_option maxRecDepth 100000 in
set_option maxHeartbeats 800000 in
theorem ref04_all_1 (w : World) : Calls Tryz.prog 83 #[.int .i64 1] w fun e w' => ∃ v, e = .returned v ∧ w'.ownsRow w.heap.size 92 5 v (formOf 1).length (specOf (formOf 1)) ∧ Ext w w' := by
  have hx := Ext.refl w
  go_enter Tryz.func83, Tryz.ntmps83
  go_wp2_with (first
    | (go_at_call 102; refine (ref04_number _ _ _ _).mono ?_; rintro e w9 ⟨rfl, x9⟩; replace hx := hx.trans x9; clear x9)
    | (go_at_call 103; refine (ref04_bytes _ _ _ _ _).mono ?_; rintro e w9 ⟨rfl, x9⟩; replace hx := hx.trans x9; clear x9))
  go_ret
  exact ⟨_, rfl, own_to (own_blk _ _ _ 5 8 rfl (by omega) hx.size _ rfl) (Nat.le_refl _) rfl rfl, hx.alloc _⟩

set_option maxRecDepth 100000 in
set_option maxHeartbeats 800000 in
theorem ref04_all_2 (w : World) : Calls Tryz.prog 83 #[.int .i64 2] w fun e w' => ∃ v, e = .returned v ∧ w'.ownsRow w.heap.size 92 5 v (formOf 2).length (specOf (formOf 2)) ∧ Ext w w' := by
  have hx := Ext.refl w
  go_enter Tryz.func83, Tryz.ntmps83
  go_wp2_with (first
    | (go_at_call 102; refine (ref04_number _ _ _ _).mono ?_; rintro e w9 ⟨rfl, x9⟩; replace hx := hx.trans x9; clear x9)
    | (go_at_call 103; refine (ref04_bytes _ _ _ _ _).mono ?_; rintro e w9 ⟨rfl, x9⟩; replace hx := hx.trans x9; clear x9))
  go_ret
  exact ⟨_, rfl, own_to (own_blk _ _ _ 5 5 rfl (by omega) hx.size _ rfl) (Nat.le_refl _) rfl rfl, hx.alloc _⟩

set_option maxRecDepth 100000 in
set_option maxHeartbeats 800000 in
theorem ref04_all_3 (w : World) : Calls Tryz.prog 83 #[.int .i64 3] w fun e w' => ∃ v, e = .returned v ∧ w'.ownsRow w.heap.size 92 5 v (formOf 3).length (specOf (formOf 3)) ∧ Ext w w' := by
  have hx := Ext.refl w
  go_enter Tryz.func83, Tryz.ntmps83
  go_wp2_with (first
    | (go_at_call 102; refine (ref04_number _ _ _ _).mono ?_; rintro e w9 ⟨rfl, x9⟩; replace hx := hx.trans x9; clear x9)
    | (go_at_call 103; refine (ref04_bytes _ _ _ _ _).mono ?_; rintro e w9 ⟨rfl, x9⟩; replace hx := hx.trans x9; clear x9))
  go_ret
  exact ⟨_, rfl, own_to (own_blk _ _ _ 5 2 rfl (by omega) hx.size _ rfl) (Nat.le_refl _) rfl rfl, hx.alloc _⟩

set_option maxRecDepth 100000 in
set_option maxHeartbeats 800000 in
theorem ref04_all_4 (w : World) : Calls Tryz.prog 83 #[.int .i64 4] w fun e w' => ∃ v, e = .returned v ∧ w'.ownsRow w.heap.size 92 5 v (formOf 4).length (specOf (formOf 4)) ∧ Ext w w' := by
  have hx := Ext.refl w
  go_enter Tryz.func83, Tryz.ntmps83
  go_wp2_with (first
    | (go_at_call 102; refine (ref04_number _ _ _ _).mono ?_; rintro e w9 ⟨rfl, x9⟩; replace hx := hx.trans x9; clear x9)
    | (go_at_call 103; refine (ref04_bytes _ _ _ _ _).mono ?_; rintro e w9 ⟨rfl, x9⟩; replace hx := hx.trans x9; clear x9))
  go_ret
  exact ⟨_, rfl, own_to (own_blk _ _ _ 5 4 rfl (by omega) hx.size _ rfl) (Nat.le_refl _) rfl rfl, hx.alloc _⟩

set_option maxRecDepth 100000 in
set_option maxHeartbeats 800000 in
theorem ref04_all_5 (w : World) : Calls Tryz.prog 83 #[.int .i64 5] w fun e w' => ∃ v, e = .returned v ∧ w'.ownsRow w.heap.size 92 5 v (formOf 5).length (specOf (formOf 5)) ∧ Ext w w' := by
  have hx := Ext.refl w
  go_enter Tryz.func83, Tryz.ntmps83
  go_wp2_with (first
    | (go_at_call 102; refine (ref04_number _ _ _ _).mono ?_; rintro e w9 ⟨rfl, x9⟩; replace hx := hx.trans x9; clear x9)
    | (go_at_call 103; refine (ref04_bytes _ _ _ _ _).mono ?_; rintro e w9 ⟨rfl, x9⟩; replace hx := hx.trans x9; clear x9))
  go_ret
  exact ⟨_, rfl, own_to (own_blk _ _ _ 5 7 rfl (by omega) hx.size _ rfl) (Nat.le_refl _) rfl rfl, hx.alloc _⟩

set_option maxRecDepth 100000 in
set_option maxHeartbeats 800000 in
theorem ref04_all_6 (w : World) : Calls Tryz.prog 83 #[.int .i64 6] w fun e w' => ∃ v, e = .returned v ∧ w'.ownsRow w.heap.size 92 5 v (formOf 6).length (specOf (formOf 6)) ∧ Ext w w' := by
  have hx := Ext.refl w
  go_enter Tryz.func83, Tryz.ntmps83
  go_wp2_with (first
    | (go_at_call 102; refine (ref04_number _ _ _ _).mono ?_; rintro e w9 ⟨rfl, x9⟩; replace hx := hx.trans x9; clear x9)
    | (go_at_call 103; refine (ref04_bytes _ _ _ _ _).mono ?_; rintro e w9 ⟨rfl, x9⟩; replace hx := hx.trans x9; clear x9))
  go_ret
  exact ⟨_, rfl, own_to (own_blk _ _ _ 5 10 rfl (by omega) hx.size _ rfl) (Nat.le_refl _) rfl rfl, hx.alloc _⟩

set_option maxRecDepth 100000 in
set_option maxHeartbeats 800000 in
theorem ref04_all_7 (w : World) : Calls Tryz.prog 83 #[.int .i64 7] w fun e w' => ∃ v, e = .returned v ∧ w'.ownsRow w.heap.size 92 5 v (formOf 7).length (specOf (formOf 7)) ∧ Ext w w' := by
  have hx := Ext.refl w
  go_enter Tryz.func83, Tryz.ntmps83
  go_wp2_with (first
    | (go_at_call 102; refine (ref04_number _ _ _ _).mono ?_; rintro e w9 ⟨rfl, x9⟩; replace hx := hx.trans x9; clear x9)
    | (go_at_call 103; refine (ref04_bytes _ _ _ _ _).mono ?_; rintro e w9 ⟨rfl, x9⟩; replace hx := hx.trans x9; clear x9))
  go_ret
  exact ⟨_, rfl, own_to (own_blk _ _ _ 5 2 rfl (by omega) hx.size _ rfl) (Nat.le_refl _) rfl rfl, hx.alloc _⟩

set_option maxRecDepth 100000 in
set_option maxHeartbeats 800000 in
theorem ref04_all (kind : Int) (w : World) : Calls Tryz.prog 83 #[.int .i64 kind] w fun e w' => ∃ v, e = .returned v ∧ w'.ownsRow w.heap.size 92 5 v (formOf kind).length (specOf (formOf kind)) ∧ Ext w w' := by
  rcases formOf_cases kind with ⟨h, hf⟩ | rfl | rfl | rfl | rfl | rfl | rfl | rfl
  · rw [hf]
    have b1 := beq_f (show kind ≠ 1 by omega)
    have b2 := beq_f (show kind ≠ 2 by omega)
    have b3 := beq_f (show kind ≠ 3 by omega)
    have b4 := beq_f (show kind ≠ 4 by omega)
    have b5 := beq_f (show kind ≠ 5 by omega)
    have b6 := beq_f (show kind ≠ 6 by omega)
    have b7 := beq_f (show kind ≠ 7 by omega)
    clear h hf
    go_enter Tryz.func83, Tryz.ntmps83
    go_wp2
    go_ret
    exact ⟨_, rfl, World.ownsRow_nil _ _ _ _, Ext.refl w⟩
  · exact ref04_all_1 w
  · exact ref04_all_2 w
  · exact ref04_all_3 w
  · exact ref04_all_4 w
  · exact ref04_all_5 w
  · exact ref04_all_6 w
  · exact ref04_all_7 w

/-- is a spec there at a version -/
def atV (v : Int) (s : SpV) : Bool := decide (1 ≤ v) && decide (v ≤ 3) && decide ((s.since : Int) ≤ v)
theorem specL_eq (kind v : Int) : specL kind v = (formOf kind).filter (atV v) := by
  unfold specL
  by_cases h : 1 ≤ v ∧ v ≤ 3
  · rw [if_pos h]
    congr 1
    funext s
    simp [atV, h.1, h.2]
  · rw [if_neg h]
    symm
    rw [List.filter_eq_nil_iff]
    intro s _
    simp only [atV, Bool.and_eq_true, decide_eq_true_eq]
    omega

set_option maxRecDepth 100000 in
set_option maxHeartbeats 800000 in
theorem ref04_Specs (kind v : Int) (w : World) : Calls Tryz.prog 50 #[.int .i64 kind, .int .i64 v] w fun e w' => ∃ V, e = .returned V ∧ w'.ownsRow w.heap.size 92 5 V (specL kind v).length (specOf (specL kind v)) ∧ Ext w w' := by
  rw [specL_eq]
  have HA := Lib.hid (fun w => ref04_all kind w)
  have hl := formOf_len kind
  generalize formOf kind = F at *
  have h0 := own_empty w 92 5
  go_enter Tryz.func50, Tryz.ntmps50
  go_wp2_with fail
  refine (HA.out _).mono ?_
  rintro e w1 ⟨V, rfl, hown, x1⟩
  obtain ⟨A, c, rfl, _⟩ := own_form hown
  have hS := Ss.of_own hown
  have hAb : ∀ b off, A = some ⟨b, off, none⟩ → b ≠ w.heap.size := by
    rintro b off rfl
    have := own_lt hown
    simp at this
    omega
  have h1 := own_ext h0 x1
  have hx1 : Ext w w1 := ((Ext.refl w).alloc _).trans x1
  have hG := Grow.start w.heap.size w1 (v := .slice (some ⟨w.heap.size, 0, none⟩) 0 0) (by intro k hk; simp [Value.ownBlock] at hk; exact .inl hk.symm)
  have HAb := Lib.hid hAb
  clear hown HA h0 x1 hAb
  generalize hN : F.length = N at *
  have HN := Lib.hid hN; clear hN
  go_wp2
  go_loopw [5, 7] (fun acc i wr => ∃ j : Nat, i = .int .i64 j ∧ j ≤ N ∧ wr.ownsRow w.heap.size 92 5 acc ((F.take j).filter (atV v)).length (specOf ((F.take j).filter (atV v))) ∧ Grow w.heap.size w1 wr acc) (fun _ i _ => N - (intOf i).toNat)
  case atStart => exact ⟨0, rfl, by omega, by simpa [specOf] using h1, hG⟩
  case round =>
    obtain ⟨j, rfl, hj, hown, hg⟩ := hrel
    have hx : Ext w wr := hg.below hx1 (Nat.le_refl _)
    clear h1 hG
    by_cases hjn : j < N
    · have hSr : Ss wr A N F := hg.rd hS HAb.out
      obtain ⟨b, off, rfl, d0, d1, d2, d3, d4⟩ := hSr.at_ hjn
      have hsn := filter_snoc (atV v) F j (by rw [HN.out]; exact hjn)
      have hle : ((F.take j).filter (atV v)).length ≤ j := Nat.le_trans (List.length_filter_le _ _) (List.length_take_le _ _)
      generalize F[j]'(by rw [HN.out]; exact hjn) = f at *
      have Hsn := Lib.hid hsn; clear hsn
      have hszw := hx.size
      have hj0 : (0 : Int) ≤ j := by omega
      have hj1 : (j : Int) < N := by omega
      have hcs : (v < 1 ∧ atV v f = false) ∨ (1 ≤ v ∧ 3 < v ∧ atV v f = false) ∨ (1 ≤ v ∧ v ≤ 3 ∧ v < (f.since : Int) ∧ atV v f = false) ∨ (1 ≤ v ∧ v ≤ 3 ∧ (f.since : Int) ≤ v ∧ atV v f = true) := by
        unfold atV
        by_cases c1 : 1 ≤ v <;> by_cases c2 : v ≤ 3 <;> by_cases c3 : (f.since : Int) ≤ v <;> simp [c1, c2, c3] <;> omega
      rcases hcs with ⟨g1, g2⟩ | ⟨g1, g2, g3⟩ | ⟨g1, g2, g3, g4⟩ | ⟨g1, g2, g3, g4⟩
      · have HG := Lib.hid g2; clear g2
        go_wp2
        go_roundw
        case rel => exact ⟨j + 1, val_int (by omega), by omega, own_to hown (Nat.le_refl _) (by rw [Hsn.out]; simp [HG.out]) (by rw [Hsn.out, specOf_append]; simp [HG.out, specOf]), hg⟩
        case measure => simp [intOf]; omega
      · have HG := Lib.hid g3; clear g3
        go_wp2
        go_roundw
        case rel => exact ⟨j + 1, val_int (by omega), by omega, own_to hown (Nat.le_refl _) (by rw [Hsn.out]; simp [HG.out]) (by rw [Hsn.out, specOf_append]; simp [HG.out, specOf]), hg⟩
        case measure => simp [intOf]; omega
      · have HG := Lib.hid g4; clear g4
        go_wp2
        go_roundw
        case rel => exact ⟨j + 1, val_int (by omega), by omega, own_to hown (Nat.le_refl _) (by rw [Hsn.out]; simp [HG.out]) (by rw [Hsn.out, specOf_append]; simp [HG.out, specOf]), hg⟩
        case measure => simp [intOf]; omega
      · have HG := Lib.hid g4; clear g4
        go_wp2_with (at_builtin; refine wpList_app specT (by omega) _ rfl rfl rfl (hown.alloc _) rfl (rd_at5 _ (.int .i64 f.num) (.int .i64 f.wire) (.int .i64 f.since) (.bool f.need) (.bool f.many) _ _ (by simp)) (scells_one _ _ _ _ _) (by unfold maxLen; omega) (by omega) (by simp; omega) ?_; intro v1 w2 hown1 hg1 hat1)
        go_roundw
        case rel => exact ⟨j + 1, val_int (by omega), by omega, own_to hown1 (Nat.le_refl _) (by rw [Hsn.out]; simp [HG.out]) (by rw [Hsn.out, specOf_append]; simp [HG.out, specOf_one, SpV.cells]), (hg.ext ((Ext.refl _).alloc _)).app hg1 hat1⟩
        case measure => simp [intOf]; omega
    · obtain rfl : j = N := by omega
      go_wp2
      go_ret
      refine ⟨_, rfl, own_to hown (Nat.le_refl _) (by rw [List.take_of_length_le (by rw [HN.out]; exact Nat.le_refl _)]) (by rw [List.take_of_length_le (by rw [HN.out]; exact Nat.le_refl _)]), hx⟩

set_option maxRecDepth 100000 in
set_option maxHeartbeats 800000 in
theorem ref04_Top (kind v : Int) (w : World) : Calls Tryz.prog 21 #[.int .i64 kind, .int .i64 v] w fun e w' => e = .returned (.int .i64 (topL (specL kind v))) ∧ Ext w w' := by
  have HA := Lib.hid (ref04_Specs kind v w)
  have hl := specL_len kind v
  generalize specL kind v = F at *
  go_enter Tryz.func21, Tryz.ntmps21
  go_wp2_with fail
  refine HA.out.mono ?_
  rintro e w1 ⟨V, rfl, hown, x1⟩
  obtain ⟨A, c, rfl, _⟩ := own_form hown
  have hS := Ss.of_own hown
  clear hown HA
  generalize hN : F.length = N at *
  have HN := Lib.hid hN; clear hN
  go_wp2
  go_loopw [5, 7] (fun acc i wr => ∃ j : Nat, i = .int .i64 j ∧ j ≤ N ∧ acc = .int .i64 (topL (F.take j)) ∧ Ext w1 wr) (fun _ i _ => N - (intOf i).toNat)
  case atStart => exact ⟨0, rfl, by omega, rfl, Ext.refl _⟩
  case round =>
    obtain ⟨j, rfl, hj, rfl, hx⟩ := hrel
    by_cases hjn : j < N
    · obtain ⟨b, off, rfl, d0, d1, d2, d3, d4⟩ := (hS.ext hx).at_ hjn
      have hsn := topL_snoc F j (by rw [HN.out]; exact hjn)
      generalize F[j]'(by rw [HN.out]; exact hjn) = f at *
      have Hsn := Lib.hid hsn; clear hsn
      have hj0 : (0 : Int) ≤ j := by omega
      have hj1 : (j : Int) < N := by omega
      go_wp2
      go_roundw
      case rel => exact ⟨j + 1, val_int (by omega), by omega, by rw [Hsn.out]; exact val_int (by omega), hx⟩
      case measure => simp [intOf]; omega
    · obtain rfl : j = N := by omega
      go_wp2
      go_ret
      exact ⟨by rw [List.take_of_length_le (by rw [HN.out]; exact Nat.le_refl _)]; rfl, x1.trans hx⟩

/-- Same of rows that are alike -/
theorem run_neq_spec (f : SpV) (w : World) : (binOp .neq 92 (.agg #[.int .i64 f.num, .int .i64 f.wire, .int .i64 f.since, .bool f.need, .bool f.many]) (.agg #[.int .i64 f.num, .int .i64 f.wire, .int .i64 f.since, .bool f.need, .bool f.many])).run Tryz.prog w = .ok (.bool false) w := by
  simp [go_sem]

end Go.Proofs.YtiildgoaiookhaaGreat

/- The walk of coracleref04.Check. -/
namespace Go.Proofs.YtiildgoaiookhaaGreat
open Go.RowKit

theorem formOf_wire (kind : Int) : ∀ s ∈ formOf kind, s.wire = 0 ∨ s.wire = 2 := by
  rcases formOf_cases kind with ⟨_, h⟩ | rfl | rfl | rfl | rfl | rfl | rfl | rfl
  · rw [h]; simp
  all_goals decide
theorem specL_wire (kind v : Int) : ∀ s ∈ specL kind v, s.wire = 0 ∨ s.wire = 2 := by
  unfold specL; split
  · intro s hs; exact formOf_wire kind s (List.mem_filter.1 hs).1
  · simp
theorem one_bad {s : SpV} {l : List FV} {j : Nat} (hj : j < l.length) (hn : l[j].num = (s.num : Int)) (h : (decide (l[j].wire = (s.wire : Int)) && fullB l[j]) = false) : specB s l = false := by
  have : oneB s l = false := by
    unfold oneB
    rw [List.all_eq_false]
    exact ⟨l[j], List.getElem_mem _, by simp [hn, h]⟩
  unfold specB
  rw [this, Bool.false_and]
theorem one_good {s : SpV} {l : List FV} (h : ∀ j (hj : j < l.length), l[j].num = (s.num : Int) → (decide (l[j].wire = (s.wire : Int)) && fullB l[j]) = true) : oneB s l = true := by
  unfold oneB
  rw [List.all_eq_true]
  intro f hf
  obtain ⟨j, hj, rfl⟩ := List.getElem_of_mem hf
  by_cases e : l[j].num = (s.num : Int)
  · have := h j hj e
    simp [e, this]
  · simp [e]

set_option maxRecDepth 100000 in
set_option maxHeartbeats 6400000 in
theorem ref04_Check (kind v : Int) (A : Option Addr) (n c : Nat) (l : List FV) (w : World) (hf : Fs w A n l) (hn : n ≤ 20000) :
    Calls Tryz.prog 49 #[.int .i64 kind, .int .i64 v, .slice A n c] w fun e w' => e = .returned (.int .i64 (checkN (specL kind v) l)) ∧ Ext w w' := by
  have hlen := hf.len
  have HS := Lib.hid (fun w => ref04_Specs kind v w)
  have HM := Lib.hid (fun (w' : World) (h : Ext w w') => ref03_May A n c l w' (hf.ext h) hn)
  have hN10 := specL_len kind v
  have hnum := specL_num kind v
  have hwire := specL_wire kind v
  generalize specL kind v = S at *
  have HNum := Lib.hid hnum; clear hnum
  have HWire := Lib.hid hwire; clear hwire
  by_cases hS : S = []
  · rw [show checkN S l = 1 by simp [checkN, hS]]
    subst hS
    go_enter Tryz.func49, Tryz.ntmps49
    go_wp2_with fail
    refine (HS.out _).mono ?_
    rintro e w1 ⟨V, rfl, hown, x1⟩
    obtain ⟨B, cc, rfl, _⟩ := own_form hown
    clear hown
    go_wp2
    go_ret
    exact ⟨rfl, x1⟩
  by_cases hM : fmay l = 0
  rotate_left
  · rw [show checkN S l = fmay l by simp [checkN, hS, hM]]
    have hl0 : (S.length : Int) ≠ 0 := by
      have : S.length ≠ 0 := fun h => hS (List.eq_nil_of_length_eq_zero h)
      omega
    have g0 := beq_f hl0
    have g1 := bne_t (show ((fmay l : Nat) : Int) ≠ 0 by omega)
    clear hS hM hl0
    go_enter Tryz.func49, Tryz.ntmps49
    go_wp2_with fail
    refine (HS.out _).mono ?_
    rintro e w1 ⟨V, rfl, hown, x1⟩
    obtain ⟨B, cc, rfl, _⟩ := own_form hown
    clear hown
    go_wp2_with fail
    refine (HM.out _ x1).mono ?_
    rintro e w2 ⟨rfl, x2⟩
    go_wp2
    go_ret
    exact ⟨rfl, x1.trans x2⟩
  obtain ⟨hal, _⟩ := fmay_ok hM
  have HAL := Lib.hid hal; clear hal
  have hcn : checkN S l = if okB S l = true then 0 else 6 := by simp [checkN, hS, hM]
  have HCN := Lib.hid hcn; clear hcn
  rw [hM] at HM
  have hSl : S.length ≠ 0 := fun h => hS (List.eq_nil_of_length_eq_zero h)
  clear hS hM
  generalize hN : S.length = N at *
  have HN := Lib.hid hN; clear hN
  have g0 := beq_f (show (N : Int) ≠ 0 by omega)
  go_enter Tryz.func49, Tryz.ntmps49
  go_wp2_with fail
  refine (HS.out _).mono ?_
  rintro e w1 ⟨V, rfl, hown, x1⟩
  obtain ⟨B, cc, rfl, _⟩ := own_form hown
  have hSs := Ss.of_own hown
  clear hown
  go_wp2_with fail
  refine (HM.out _ x1).mono ?_
  rintro e w2 ⟨rfl, x2⟩
  have hSs2 := hSs.ext x2
  have hf2 := hf.ext (x1.trans x2)
  have hx2 := x1.trans x2
  clear HS HM hSs hf x1 x2
  go_wp2
  go_loopw [9] (fun i wr => ∃ q : Nat, i = .int .i64 q ∧ q ≤ N ∧ Ext w2 wr ∧ (∀ q' (hq' : q' < S.length), q' < q → specB S[q'] l = true)) (fun i _ => N - (intOf i).toNat)
  case atStart => exact ⟨0, rfl, by omega, Ext.refl _, fun q' _ h => absurd h (by omega)⟩
  case round =>
    obtain ⟨q, rfl, hq, hx, hgood⟩ := hrel
    obtain ⟨wo, rfl⟩ : ∃ wo : World, wo = wr := ⟨_, rfl⟩
    have HG := Lib.hid hgood; clear hgood
    by_cases hqn : q < N
    · have hqS : q < S.length := by rw [HN.out]; exact hqn
      obtain ⟨sb, soff, rfl, e0, e1, e2, e3, e4⟩ := (hSs2.ext hx).at_ hqn
      have hsw := HWire.out S[q] (List.getElem_mem _)
      have hbad := fun (h : specB (S[q]'hqS) l = false) => okB_false (S := S) (l := l) (s := S[q]'hqS) (List.getElem_mem _) h
      obtain ⟨s, hsq⟩ : ∃ s, S[q]'hqS = s := ⟨_, rfl⟩
      simp only [hsq] at hsw hbad e0 e1 e2 e3 e4
      have Hsq := Lib.hid hsq; clear hsq
      have HB := Lib.hid hbad; clear hbad
      have hB0 := Blk.new wo 92 [.int .i64 s.num, .int .i64 s.wire, .int .i64 s.since, .bool s.need, .bool s.many]
      have hxa : Ext w2 (wo.alloc (.cells #[.int .i64 s.num, .int .i64 s.wire, .int .i64 s.since, .bool s.need, .bool s.many] 92)) := hx.alloc _
      have hj0 : (0 : Int) ≤ q := by omega
      have hj1 : (q : Int) < N := by omega
      go_wp2
      generalize hW3 : (wo.alloc (.cells #[.int .i64 s.num, .int .i64 s.wire, .int .i64 s.since, .bool s.need, .bool s.many] 92)) = w3 at *
      clear hW3 e0 e1 e2 e3 e4
      go_loopw [11, 12] (fun m i wr => ∃ k : Nat, i = .int .i64 k ∧ k ≤ n ∧ m = .int .i64 (cnt s.num (l.take k)) ∧ Ext w3 wr ∧ (∀ i (hi : i < l.length), i < k → l[i].num = (s.num : Int) → (decide (l[i].wire = (s.wire : Int)) && fullB l[i]) = true)) (fun _ i _ => n - (intOf i).toNat)
      case atStart => exact ⟨0, rfl, by omega, rfl, Ext.refl _, fun i _ h => absurd h (by omega)⟩
      case round =>
        obtain ⟨k, rfl, hk, rfl, hxi, hgi⟩ := hrel
        have HGI := Lib.hid hgi; clear hgi
        have hBs := hB0.ext hxi
        have s0 := hBs.cell 0
        have s1 := hBs.cell 1
        have s3 := hBs.cell 3
        have s4 := hBs.cell 4
        simp only [List.getElem?_cons_zero, List.getElem?_cons_succ] at s0 s1 s3 s4
        have hltS := hBs.lt
        clear hBs
        by_cases hkn : k < n
        · obtain ⟨b, off, rfl, d0, d1, d2, d3⟩ := (hf2.ext (hxa.trans hxi)).at_ hkn
          have hkl : k < l.length := by omega
          have hal := HAL.out (l[k]'hkl) (List.getElem_mem _)
          have hsn := cnt_snoc (s.num : Int) l k hkl
          have hbad := one_bad (s := s) (l := l) (j := k) hkl
          have hcl := cnt_le (s.num : Int) (l.take k)
          rw [List.length_take] at hcl
          obtain ⟨f, hfk⟩ : ∃ f, l[k]'hkl = f := ⟨_, rfl⟩
          simp only [hfk] at hal hsn hbad d0 d1 d2 d3
          have Hfk := Lib.hid hfk; clear hfk
          have halt := (alone_true hal.1).2
          clear hal
          have Hsn := Lib.hid hsn; clear hsn
          have HBd := Lib.hid hbad; clear hbad
          obtain ⟨num, wire, fn, fA, flen, fcap, fb⟩ := f
          dsimp only at halt d0 d1 d2 d3
          have hk0 : (0 : Int) ≤ k := by omega
          have hk1 : (k : Int) < n := by omega
          generalize hct : cnt (s.num : Int) (l.take k) = ct at *
          by_cases hnm : num = (s.num : Int)
          · subst hnm
            have hsw' := hsw
            have hs1 := s1
            rcases halt with ⟨rfl, rfl⟩ | ⟨rfl, rfl⟩
            · rcases hsw with hsw | hsw
              · rw [hsw] at s1
                by_cases e : fn = 0
                · subst e
                  have hspec := HBd.out rfl (by simp [fullB, hsw])
                  have HF := Lib.hid (HB.out hspec)
                  clear hspec hsw hsw' hs1 hct
                  go_wp2
                  go_quiet (fail)
                  go_wp2
                  go_quiet (fail)
                  go_wp2
                  go_ret
                  exact ⟨by rw [HCN.out, HF.out]; rfl, hx2.trans (hxa.trans ((hxi.drewN _).drewN _))⟩
                · have g2 := beq_f (show ((fn : Nat) : Int) ≠ 0 by omega)
                  have hT : (decide (((0 : Int)) = (s.wire : Int)) && fullB ⟨(s.num : Int), 0, fn, fA, 0, fcap, fb⟩) = true := by simp [fullB, hsw]; omega
                  have HT := Lib.hid hT
                  clear hT hsw hsw' hs1 hct e
                  go_wp2
                  go_quiet (fail)
                  go_wp2
                  go_quiet (fail)
                  go_wp2
                  go_roundw
                  case rel => exact ⟨k + 1, val_int (by omega), by omega, by rw [Hsn.out, if_pos trivial]; exact val_int (by omega), hxi.drewN _, fun i hi hlt hn' => by
                    rcases Nat.lt_succ_iff_lt_or_eq.1 hlt with h | rfl
                    · exact HGI.out i hi h hn'
                    · rw [Hfk.out]; exact HT.out⟩
                  case measure => simp [intOf]; omega
              · rw [hsw] at s1
                have hspec := HBd.out rfl (by simp [fullB, hsw])
                have HF := Lib.hid (HB.out hspec)
                clear hspec hsw hsw' hs1 hct
                go_wp2
                go_quiet (fail)
                go_wp2
                go_quiet (fail)
                go_wp2
                go_ret
                exact ⟨by rw [HCN.out, HF.out]; rfl, hx2.trans (hxa.trans ((hxi.drewN _).drewN _))⟩
            · rcases hsw with hsw | hsw
              · rw [hsw] at s1
                have hspec := HBd.out rfl (by simp [fullB, hsw])
                have HF := Lib.hid (HB.out hspec)
                clear hspec hsw hsw' hs1 hct
                go_wp2
                go_quiet (fail)
                go_wp2
                go_quiet (fail)
                go_wp2
                go_ret
                exact ⟨by rw [HCN.out, HF.out]; rfl, hx2.trans (hxa.trans ((hxi.drewN _).drewN _))⟩
              · rw [hsw] at s1
                by_cases e : flen = 0
                · subst e
                  have hspec := HBd.out rfl (by simp [fullB, hsw])
                  have HF := Lib.hid (HB.out hspec)
                  clear hspec hsw hsw' hs1 hct
                  go_wp2
                  go_quiet (fail)
                  go_wp2
                  go_quiet (fail)
                  go_wp2
                  go_ret
                  exact ⟨by rw [HCN.out, HF.out]; rfl, hx2.trans (hxa.trans ((hxi.drewN _).drewN _))⟩
                · have g2 := beq_f (show ((flen : Nat) : Int) ≠ 0 by omega)
                  have hT : (decide (((2 : Int)) = (s.wire : Int)) && fullB ⟨(s.num : Int), 2, 0, fA, flen, fcap, fb⟩) = true := by simp [fullB, hsw]; omega
                  have HT := Lib.hid hT
                  clear hT hsw hsw' hs1 hct e
                  go_wp2
                  go_quiet (fail)
                  go_wp2
                  go_quiet (fail)
                  go_wp2
                  go_roundw
                  case rel => exact ⟨k + 1, val_int (by omega), by omega, by rw [Hsn.out, if_pos trivial]; exact val_int (by omega), hxi.drewN _, fun i hi hlt hn' => by
                    rcases Nat.lt_succ_iff_lt_or_eq.1 hlt with h | rfl
                    · exact HGI.out i hi h hn'
                    · rw [Hfk.out]; exact HT.out⟩
                  case measure => simp [intOf]; omega
          · have g1 := bne_t hnm
            have Hnm := Lib.hid hnm; clear hnm halt
            clear hct
            go_wp2
            go_quiet (fail)
            go_wp2
            go_roundw
            case rel => exact ⟨k + 1, val_int (by omega), by omega, by rw [Hsn.out, if_neg Hnm.out]; rfl, hxi.drewN _, fun i hi hlt hn' => by
              rcases Nat.lt_succ_iff_lt_or_eq.1 hlt with h | rfl
              · exact HGI.out i hi h hn'
              · rw [Hfk.out] at hn'; exact absurd hn' Hnm.out⟩
            case measure => simp [intOf]; omega
        · obtain rfl : n = k := by omega
          have hone : oneB s l = true := one_good (fun j hj hn' => HGI.out j hj (by omega) hn')
          have hsb : specB s l = ((decide (cnt s.num l ≤ 1) || s.many) && (!s.need || decide (0 < cnt s.num l))) := by unfold specB; rw [hone, Bool.true_and]
          have htk : l.take n = l := List.take_of_length_le (by omega)
          rw [htk]
          have Hsb := Lib.hid hsb
          clear hsb htk hone
          have hcs : (s.many = false ∧ decide ((1 : Int) < (cnt (s.num : Int) l : Int)) = true) ∨ ((s.many = true ∨ decide ((1 : Int) < (cnt (s.num : Int) l : Int)) = false) ∧ s.need = true ∧ cnt (s.num : Int) l = 0) ∨ ((s.many = true ∨ decide ((1 : Int) < (cnt (s.num : Int) l : Int)) = false) ∧ (s.need = false ∨ 0 < cnt (s.num : Int) l)) := by
            rcases s.many with _ | _ <;> rcases s.need with _ | _ <;> by_cases c1 : (1 : Int) < (cnt (s.num : Int) l : Int) <;> by_cases c2 : cnt (s.num : Int) l = 0 <;> simp [c1, c2] <;> omega
          generalize hct : cnt (s.num : Int) l = ct at *
          clear hct
          obtain ⟨sn, sw, ss, need, many⟩ := s
          dsimp only at hcs s0 s1 s3 s4 Hsb
          rcases hcs with ⟨rfl, h1⟩ | ⟨h1, rfl, rfl⟩ | ⟨h1, h2⟩
          · have hspec : specB ⟨sn, sw, ss, need, false⟩ l = false := by
              rw [Hsb.out]
              have : ¬ ct ≤ 1 := by have := of_decide_eq_true h1; omega
              simp [this]
            have HF := Lib.hid (HB.out hspec); clear hspec
            clear hsw
            go_wp2
            go_ret
            exact ⟨by rw [HCN.out, HF.out]; rfl, hx2.trans (hxa.trans hxi)⟩
          · have hspec : specB ⟨sn, sw, ss, true, many⟩ l = false := by
              rw [Hsb.out]; simp
            have HF := Lib.hid (HB.out hspec); clear hspec
            clear hsw
            rcases h1 with rfl | h1
            all_goals
              go_wp2
              go_ret
              exact ⟨by rw [HCN.out, HF.out]; rfl, hx2.trans (hxa.trans hxi)⟩
          · have hspec : specB ⟨sn, sw, ss, need, many⟩ l = true := by
              rw [Hsb.out]
              rcases h1 with rfl | h1 <;> rcases h2 with rfl | h2
              · simp
              · simp [h2]
              · have := of_decide_eq_false h1; simp; omega
              · have := of_decide_eq_false h1; simp [h2]; omega
            have HT := Lib.hid hspec; clear hspec
            clear hsw
            have h1' : (many = true ∧ decide ((1 : Int) < (ct : Int)) = false) ∨ (many = true ∧ decide ((1 : Int) < (ct : Int)) = true) ∨ (many = false ∧ decide ((1 : Int) < (ct : Int)) = false) := by
              rcases h1 with h | h
              · cases hd : decide ((1 : Int) < (ct : Int)) <;> simp [h]
              · cases many <;> simp [h]
            have h2' : (need = false ∧ ((ct : Int) == 0) = true) ∨ (((ct : Int) == 0) = false) := by
              by_cases e : ct = 0
              · rcases h2 with h | h
                · exact .inl ⟨h, by simp [e]⟩
                · omega
              · exact .inr (beq_f (by omega))
            clear h1 h2
            rcases h1' with ⟨rfl, h1⟩ | ⟨rfl, h1⟩ | ⟨rfl, h1⟩
            all_goals
              rcases h2' with ⟨rfl, h2⟩ | h2
              all_goals
                go_wp2
                refine ⟨⟨q + 1, val_int (by omega), by omega, hxa.trans hxi, fun q' hq' hlt => ?_⟩, by simp [intOf]; omega⟩
                rcases Nat.lt_succ_iff_lt_or_eq.1 hlt with h | rfl
                · exact HG.out q' hq' h
                · rw [Hsq.out]; exact HT.out
    · obtain rfl : N = q := by omega
      go_wp2
      go_ret
      have hok : okB S l = true := ok_specs (fun q hq => HG.out q hq (by rw [← HN.out]; exact hq))
      exact ⟨by rw [HCN.out, hok]; rfl, hx2.trans hx⟩
end Go.Proofs.YtiildgoaiookhaaGreat

