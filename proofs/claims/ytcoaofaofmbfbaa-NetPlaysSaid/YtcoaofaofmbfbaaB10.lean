/- Words and walks that the last text of this claim stands on: PlF, LpN, PlG, LpE. No condition. -/
import Derived.Test.YtcoaofaofmbfbaaB06
import Derived.Test.YtcoaofaofmbfbaaB07
import Derived.Test.YtcoaofaofmbfbaaB09
import Derived.Test.YtcoaofaofmbfbaaB04
/- The fields of a letter and of an entry: plain. -/
namespace Go.Proofs.Ytcoaofaofmbfbaa
open Go.RowKit

/-- the fields of numbers from the k-th on: those that are not nought -/
def numF : Nat → List Int → List FV
  | _, [] => []
  | k, n :: r => (if n = 0 then [] else [tfv k 0 n.toNat []]) ++ numF (k + 1) r
theorem numF_nil (k : Nat) : numF k [] = [] := rfl
theorem numF_cons (k : Nat) (n : Int) (r : List Int) : numF k (n :: r) = (if n = 0 then [] else [tfv k 0 n.toNat []]) ++ numF (k + 1) r := rfl
theorem numF_snoc : ∀ (l : List Int) (k : Nat) (n : Int), numF k (l ++ [n]) = numF k l ++ (if n = 0 then [] else [tfv (k + l.length) 0 n.toNat []])
  | [], k, n => by simp [numF]
  | a :: r, k, n => by
    rw [List.cons_append, numF_cons, numF_cons, numF_snoc r (k + 1) n, List.append_assoc]
    rw [show k + 1 + r.length = k + (a :: r).length by simp; omega]
theorem numF_take (l : List Int) (j : Nat) (h : j < l.length) : numF 1 (l.take (j + 1)) = numF 1 (l.take j) ++ (if l[j] = 0 then [] else [tfv (j + 1) 0 l[j].toNat []]) := by
  rw [List.take_succ_eq_append_getElem h, numF_snoc]
  rw [show 1 + (l.take j).length = j + 1 by rw [List.length_take]; omega]
theorem numF_len : ∀ (l : List Int) (k : Nat), (numF k l).length ≤ l.length
  | [], _ => Nat.le_refl _
  | a :: r, k => by
    have := numF_len r (k + 1)
    rw [numF_cons, List.length_append, List.length_cons]
    split <;> simp <;> omega
theorem numF_mem : ∀ (l : List Int) (k : Nat), ∀ f ∈ numF k l, ∃ i, ∃ h : i < l.length, l[i] ≠ 0 ∧ f = tfv (k + i) 0 l[i].toNat []
  | [], _, f, hf => by simp [numF] at hf
  | a :: r, k, f, hf => by
    rw [numF_cons] at hf
    rcases List.mem_append.1 hf with hf | hf
    · by_cases ha : a = 0
      · rw [if_pos ha] at hf; simp at hf
      · rw [if_neg ha] at hf
        simp only [List.mem_singleton] at hf
        exact ⟨0, by simp, by simpa using ha, by simpa using hf⟩
    · obtain ⟨i, h, h1, h2⟩ := numF_mem r (k + 1) f hf
      exact ⟨i + 1, by simpa using h, by simpa using h1, by rw [h2]; simp; congr 1; omega⟩

/-- the fields of an entry -/
def entF (y : EV) : List FV := numF 1 [y.term] ++ (if y.b = [] then [] else [tfv 2 2 0 y.b])
/-- the numbers of a letter -/
def letN (x : LV) : List Int := [x.kind, x.src + 1, x.dst + 1, x.term, x.bin, x.a, x.b, x.c, if x.ok then 1 else 0]
/-- the fields of a letter -/
def letF (x : LV) : List FV := numF 1 (letN x) ++ x.l.map fun y => tfv 10 2 0 (rput (entF y))
/-- has a row a field that a letter of this version may have -/
def lowB (rest : List FV) : Bool := rest.any fun f => decide (f.num ≤ 10)
/-- what letter.Put says -/
def lput (x : LV) (rest : List FV) : List UInt8 × Nat :=
  if mayB x = false then ([], 1) else if lowB rest = true then ([], 6) else
  if fmay (letF x ++ rest) = 0 then (rput (letF x ++ rest), 0) else ([], fmay (letF x ++ rest))

/-! that a row may be -/
theorem tfv_s (num wire n : Nat) (b : List UInt8) : (tfv num wire n b).s = ((num : Int), (wire : Int), n, b.length, b) := rfl
theorem alone_n {k n : Nat} (h1 : 1 ≤ k) (h2 : k ≤ 1000) : aloneB (tfv k 0 n []) = true :=
  tfv_alone ⟨h1, h2, .inl rfl⟩ (fun _ => rfl) (fun h => by cases h)
theorem alone_b {k : Nat} {b : List UInt8} (h1 : 1 ≤ k) (h2 : k ≤ 1000) : aloneB (tfv k 2 0 b) = true :=
  tfv_alone ⟨h1, h2, .inr rfl⟩ (fun h => by cases h) (fun _ => rfl)
theorem size_n {k n : Nat} (h1 : 1 ≤ k) (h2 : k ≤ 1000) (hn : U64 n) : fsize (tfv k 0 n []) ≤ 12 := by
  unfold fsize tfv fput
  simp only [Int.toNat_natCast, if_true]
  rw [List.length_append]
  have h := tag_len (show TagMay k 0 from ⟨h1, h2, .inl rfl⟩)
  have hv : (vput n).length ≤ 10 := by rw [vput_len]; exact hn.size
  have : (vput (8 * k + 0)).length ≤ 2 := by rw [h]; split <;> omega
  simp only [Nat.add_zero] at this ⊢
  omega
theorem size_b {k : Nat} {b : List UInt8} (h1 : 1 ≤ k) (h2 : k ≤ 1000) (hb : b.length ≤ 16384) : fsize (tfv k 2 0 b) ≤ 12 + b.length := by
  unfold fsize tfv fput
  simp only [Int.toNat_natCast]
  rw [if_neg (by decide), List.length_append, List.length_append]
  have h := tag_len (show TagMay k 2 from ⟨h1, h2, .inr rfl⟩)
  have hv : (vput b.length).length ≤ 10 := by rw [vput_len]; exact U64.size (by unfold U64; omega)
  have : (vput (8 * k + 2)).length ≤ 2 := by rw [h]; split <;> omega
  omega
end Go.Proofs.Ytcoaofaofmbfbaa

/- The walk of letter.numbers. -/
namespace Go.Proofs.Ytcoaofaofmbfbaa
open Go.RowKit

theorem numF_ok : ∀ (l : List Int) (k : Nat) (w : World), (∀ x ∈ l, 0 ≤ x ∧ x ≤ 4611686018427387904) → ∀ f ∈ numF k l, f.Ok w := by
  intro l k w h f hf
  obtain ⟨i, hi, h1, rfl⟩ := numF_mem l k f hf
  have := h l[i] (List.getElem_mem _)
  exact ⟨Bs.nil_ _ _, Nat.le_refl _, by simp [tfv, maxLen], by simp only [tfv, U64]; omega⟩
set_option maxRecDepth 100000 in
set_option maxHeartbeats 800000 in
theorem letter_numbers (A : Option Addr) (n c : Nat) (l : List Int) (w : World) (h : Is w A n l) (hn : n ≤ 1000) (h0 : ∀ x ∈ l, 0 ≤ x ∧ x ≤ 4611686018427387904) :
    Calls Try.prog 45 #[.slice A n c] w fun e w' => ∃ v, e = .returned v ∧ w'.ownsRow w.heap.size 75 4 v (numF 1 l).length (rowOf (numF 1 l)) ∧ Ext w w' := by
  have hlen := h.len
  go_enter Try.func45, Try.ntmps45
  go_wp2_with fail
  go_loopw [3, 8] (fun v i wr => ∃ j : Nat, i = .int .i64 j ∧ j ≤ n ∧ wr.ownsRow w.heap.size 75 4 v (numF 1 (l.take j)).length (rowOf (numF 1 (l.take j))) ∧ Ext w wr) (fun _ i _ => n - (intOf i).toNat)
  case atStart => exact ⟨0, rfl, by omega, World.ownsRow_nil _ _ _ _, Ext.refl w⟩
  case round =>
    obtain ⟨j, rfl, hj, hown, hx⟩ := hrel
    obtain ⟨v3, rfl⟩ : ∃ v3 : Value, v3 = u3 := ⟨_, rfl⟩
    by_cases hjn : j < n
    · have hjl : j < l.length := by omega
      obtain ⟨b, off, rfl, hc⟩ := (h.ext hx).at_ hjn
      have hb := h0 l[j] (List.getElem_mem _)
      have Hsn := Lib.hid (numF_take l j hjl)
      have hnl := numF_len (l.take j) 1
      have htl : (l.take j).length ≤ 1000 := by rw [List.length_take]; omega
      have hj0 : (0 : Int) ≤ j := by omega
      have hj1 : (j : Int) < n := by omega
      generalize l[j] = x at *
      obtain ⟨m, rfl⟩ : ∃ m : Nat, x = m := ⟨x.toNat, by omega⟩
      by_cases hz : m = 0
      · subst hz
        have hb0 := bne_f (show (((0 : Nat) : Int)) = 0 from rfl)
        have HO := Lib.hid hown
        clear hown
        go_wp2_with fail
        go_roundw
        case rel => exact ⟨j + 1, val_int (by omega), by omega, own_to HO.out (Nat.le_refl _) (by rw [Hsn.out]; simp) (by rw [Hsn.out]; simp), hx⟩
        case measure => simp [intOf]; omega
      · have hb0 := bne_t (show ((m : Nat) : Int) ≠ 0 by omega)
        have hm : (m : Int) ≤ 4611686018427387904 := hb.2
        have hu : U64 m := by unfold U64; omega
        have hwr : IntKind.u64.wrap (m : Int) = m := hu.wrap
        have Hz := Lib.hid hz
        clear hz hb
        go_wp2_with (at_builtin; refine wpList_app fieldsT (by omega) _ rfl rfl rfl (hown.alloc _) rfl (rd_at4 _ (.int .i64 ((j : Int) + 1)) (.int .i64 0) (.int .u64 m) (.slice none 0 0) _ _ (by simp)) (fcells_one _ _ _ _ _ _) (by unfold maxLen; omega) (by omega) (by have := hx.size; simp; omega) ?_; intro v1 w1 hown1 hg1 hat1)
        have x1 := Below.app (hx.alloc _) hg1 (by have := hx.size; simp; omega) (hown.alloc _) (Nat.le_refl _)
        go_roundw
        case rel => exact ⟨j + 1, val_int (by omega), by omega, own_to hown1 (Nat.le_refl _) (by rw [Hsn.out, if_neg (by have := Hz.out; omega)]; simp) (by rw [Hsn.out, if_neg (by have := Hz.out; omega), rowOf_append, rowOf_one]; simp [FV.cells, tfv]), x1⟩
        case measure => simp [intOf]; omega
    · obtain rfl : n = j := by omega
      have HO := Lib.hid (own_to (ys := rowOf (numF 1 l)) (n' := (numF 1 l).length) hown (Nat.le_refl _) (by rw [List.take_of_length_le (by omega)]) (by rw [List.take_of_length_le (by omega)]))
      clear hown
      go_wp2_with fail
      go_ret
      exact ⟨_, rfl, HO.out, hx⟩
end Go.Proofs.Ytcoaofaofmbfbaa

/- That the fields of an entry, and of a letter, may be a row: plain. -/
namespace Go.Proofs.Ytcoaofaofmbfbaa
open Go.RowKit

/-- none of a row falls behind what stands ahead of it -/
def okChain : Option FV → List FV → Prop
  | _, [] => True
  | p, f :: r => fallsB p f = false ∧ okChain (some f) r
theorem may_chain : ∀ (l : List FV) (p : Option FV) (size : Nat), okChain p l → (∀ f ∈ l, aloneB f = true ∧ f.len ≤ 16384) → size + fsum l ≤ 16384 → mayScan p size l = 0
  | [], p, size, _, _, h => by rw [mayScan_nil, if_neg (by simp [fsum] at h; omega)]
  | f :: r, p, size, hc, ha, h => by
    have e : fsum (f :: r) = fsize f + fsum r := by simp [fsum]
    exact scan_mk (ha f (by simp)).1 hc.1 (ha f (by simp)).2 (may_chain r (some f) _ hc.2 (fun g hg => ha g (by simp [hg])) (by omega))
theorem chain_scan : ∀ (l : List FV) (p : Option FV) (size : Nat), mayScan p size l = 0 → okChain p l
  | [], _, _, _ => trivial
  | f :: r, p, size, h => by
    obtain ⟨_, h2, _, h4⟩ := scan_head h
    exact ⟨h2, chain_scan r _ _ h4⟩
theorem rises_lt {a f : FV} (h : a.num < f.num) : fallsB (some a) f = false := by
  simp only [fallsB, risesB]
  rw [if_neg (by omega)]
  simp [h]
theorem falls_lt {p : Option FV} {f : FV} (h : ∀ a, p = some a → a.num < f.num) : fallsB p f = false := by
  rcases p with _ | a
  · rfl
  · exact rises_lt (h a rfl)
theorem numF_chain : ∀ (l : List Int) (k : Nat) (p : Option FV) (t : List FV), (∀ a, p = some a → a.num < k) → (∀ q : Option FV, (∀ a, q = some a → a.num < (k + l.length : Nat)) → okChain q t) → okChain p (numF k l ++ t)
  | [], k, p, t, hp, ht => by simpa [numF] using ht p (by simpa using hp)
  | n :: r, k, p, t, hp, ht => by
    rw [numF_cons]
    by_cases hn : n = 0
    · rw [if_pos hn, List.nil_append]
      exact numF_chain r (k + 1) p t (fun a ha => by have := hp a ha; omega) (fun q hq => ht q (fun a ha => by have := hq a ha; simp only [List.length_cons]; omega))
    · rw [if_neg hn, List.append_assoc]
      refine ⟨falls_lt (fun a ha => by simpa [tfv] using hp a ha), ?_⟩
      exact numF_chain r (k + 1) _ t (fun a ha => by injection ha with ha; subst ha; simp only [tfv]; omega) (fun q hq => ht q (fun a ha => by have := hq a ha; simp only [List.length_cons]; omega))
theorem many_chain (k : Nat) : ∀ (l : List (List UInt8)) (p : Option FV), (∀ a, p = some a → a.num < k ∨ a.num = k ∧ a.wire = 2) → okChain p (l.map fun b => tfv k 2 0 b)
  | [], _, _ => trivial
  | b :: r, p, hp => by
    refine ⟨?_, many_chain k r _ (fun a ha => by injection ha with ha; subst ha; exact .inr ⟨rfl, rfl⟩)⟩
    rcases p with _ | a
    · rfl
    · rcases hp a rfl with h | ⟨h, h2⟩
      · exact rises_lt (by simpa [tfv] using h)
      · show (!risesB a (tfv k 2 0 b)) = false
        have hr : risesB a (tfv k 2 0 b) = ((2 : Int) == 2 && a.wire == 2) := by unfold risesB; exact if_pos h.symm
        rw [hr, h2]; rfl
theorem fsum_append (l m : List FV) : fsum (l ++ m) = fsum l + fsum m := by simp [fsum]
theorem numF_sum : ∀ (l : List Int) (k : Nat), 1 ≤ k → k + l.length ≤ 1000 → (∀ x ∈ l, 0 ≤ x ∧ x ≤ 4611686018427387904) → fsum (numF k l) ≤ 12 * l.length
  | [], _, _, _, _ => by simp [numF, fsum]
  | n :: r, k, h1, h2, h => by
    have ih := numF_sum r (k + 1) (by omega) (by simp at h2; omega) (fun x hx => h x (by simp [hx]))
    rw [numF_cons, fsum_append, List.length_cons]
    by_cases hn : n = 0
    · rw [if_pos hn]; simp [fsum] at ih ⊢; omega
    · rw [if_neg hn]
      have hb := h n (by simp)
      have := size_n (k := k) (n := n.toNat) h1 (by simp at h2; omega) (by unfold U64; omega)
      simp [fsum] at ih ⊢; omega
theorem numF_alone (l : List Int) (k : Nat) (h1 : 1 ≤ k) (h2 : k + l.length ≤ 1000) : ∀ f ∈ numF k l, aloneB f = true ∧ f.len ≤ 16384 := by
  intro f hf
  obtain ⟨i, hi, _, rfl⟩ := numF_mem l k f hf
  exact ⟨alone_n (by omega) (by omega), by simp [tfv]⟩

theorem rput_nil : rput [] = [] := rfl
theorem rput_app (l m : List FV) : rput (l ++ m) = rput l ++ rput m := by simp [rput]
/-- an entry that may be -/
structure EntOk (y : EV) : Prop where
  t1 : 1 ≤ y.term
  t2 : y.term ≤ 1048576
  b : y.b.length ≤ 200
theorem ent_may {y : EV} (h : EntOk y) : fmay (entF y) = 0 ∧ (rput (entF y)).length ≤ 224 := by
  have hnum : ∀ x ∈ [y.term], 0 ≤ x ∧ x ≤ 4611686018427387904 := by
    intro x hx; simp at hx; subst hx; exact ⟨by have := h.t1; omega, by have := h.t2; omega⟩
  have hs := numF_sum [y.term] 1 (by omega) (by simp) hnum
  have ha := numF_alone [y.term] 1 (by omega) (by simp)
  have hl := h.b
  have hsz := size_b (k := 2) (b := y.b) (by omega) (by omega) (by omega)
  simp only [List.length_cons, List.length_nil] at hs
  rw [rput_len]
  unfold entF fmay
  split
  · rw [List.append_nil]
    refine ⟨may_chain _ none 0 ?_ ha (by omega), by omega⟩
    have := numF_chain [y.term] 1 none [] (by simp) (fun _ _ => trivial)
    simpa using this
  · rw [fsum_append]
    have e : fsum [tfv 2 2 0 y.b] = fsize (tfv 2 2 0 y.b) := by simp [fsum]
    refine ⟨may_chain _ none 0 (numF_chain _ 1 none _ (by simp) (fun q hq => ⟨falls_lt (fun a ha => by have := hq a ha; simpa [tfv] using this), trivial⟩)) ?_ (by rw [fsum_append]; omega), by omega⟩
    intro f hf
    rcases List.mem_append.1 hf with hf | hf
    · exact ha f hf
    · simp only [List.mem_singleton] at hf
      subst hf
      exact ⟨alone_b (by omega) (by omega), by simp only [tfv]; omega⟩
theorem ent_ne {y : EV} (h : EntOk y) : rput (entF y) ≠ [] := by
  intro e
  have h2 := congrArg List.length e
  unfold entF at h2
  rw [numF_cons, if_neg (by have := h.t1; omega)] at h2
  simp [rput, fbytes, fput, tfv] at h2
  have h4 : (vput 8).length = 0 := by rw [h2.1]; rfl
  rw [vput_len] at h4
  have := vsize_pos 8
  omega
theorem mayB_parts {x : LV} (h : mayB x = true) : (x.kind = 1 ∨ x.kind = 2 ∨ x.kind = 3 ∨ x.kind = 4) ∧ (0 ≤ x.src ∧ x.src ≤ 4) ∧ (0 ≤ x.dst ∧ x.dst ≤ 4) ∧ x.src ≠ x.dst ∧ (1 ≤ x.term ∧ x.term ≤ 1048576) ∧ (1 ≤ x.bin ∧ x.bin ≤ 3) ∧
    (0 ≤ x.a ∧ x.a ≤ 64) ∧ (0 ≤ x.b ∧ x.b ≤ 1048576) ∧ (0 ≤ x.c ∧ x.c ≤ 64) ∧ (x.n ≤ 4) ∧ entsB x.l = true := by
  unfold mayB at h
  simp only [Bool.and_eq_true, inB_t, Bool.or_eq_true, beq_iff_eq, bne_iff_ne] at h
  obtain ⟨⟨⟨⟨⟨⟨⟨⟨⟨⟨⟨h1, h2⟩, h3⟩, h4⟩, h5⟩, h6⟩, h7⟩, h8⟩, h9⟩, h10⟩, h11⟩, h12⟩ := h
  refine ⟨by omega, h2, h3, h4, h5, h6, ⟨h7.1, ?_⟩, ⟨h8.1, ?_⟩, ⟨h9.1, ?_⟩, ?_, h12⟩
  · have := h7.2; split at this <;> omega
  · have := h8.2; split at this <;> omega
  · have := h9.2; split at this <;> omega
  · have := h11.2; split at this <;> omega
theorem entsB_ok {l : List EV} (h : entsB l = true) (hb : ∀ y ∈ l, y.b.length = y.len) : ∀ y ∈ l, EntOk y := by
  intro y hy
  have := List.all_eq_true.1 h y hy
  simp only [Bool.and_eq_true, inB_t, decide_eq_true_eq] at this
  exact ⟨this.1.1, this.1.2, by rw [hb y hy]; exact this.2⟩
theorem letN_bd {x : LV} (h : mayB x = true) : ∀ n ∈ letN x, 0 ≤ n ∧ n ≤ 4611686018427387904 := by
  obtain ⟨h1, h2, h3, _, h4, h5, h6, h7, h8, _⟩ := mayB_parts h
  intro n hn
  simp only [letN, List.mem_cons, List.not_mem_nil, or_false] at hn
  rcases hn with rfl | rfl | rfl | rfl | rfl | rfl | rfl | rfl | rfl
  all_goals first | omega | (split <;> omega)
theorem many_sum (k : Nat) (h1 : 1 ≤ k) (h2 : k ≤ 1000) : ∀ (l : List (List UInt8)), (∀ b ∈ l, b.length ≤ 224) → fsum (l.map fun b => tfv k 2 0 b) ≤ 236 * l.length
  | [], _ => by simp [fsum]
  | b :: r, h => by
    have ih := many_sum k h1 h2 r (fun c hc => h c (by simp [hc]))
    have hb := h b (by simp)
    have := size_b (k := k) (b := b) h1 h2 (by omega)
    simp [fsum] at ih ⊢; omega
theorem letF_eq (x : LV) : letF x = numF 1 (letN x) ++ (x.l.map fun y => rput (entF y)).map fun b => tfv 10 2 0 b := by
  unfold letF; rw [List.map_map]; rfl
/-- a letter that may be has a row that may be -/
theorem let_may {x : LV} (h : mayB x = true) (hb : ∀ y ∈ x.l, y.b.length = y.len) (hl : x.l.length = x.n) : fmay (letF x) = 0 := by
  obtain ⟨_, _, _, _, _, _, _, _, _, hn, he⟩ := mayB_parts h
  have hok := entsB_ok he hb
  have hs := numF_sum (letN x) 1 (by omega) (by simp [letN]) (letN_bd h)
  have ha := numF_alone (letN x) 1 (by omega) (by simp [letN])
  have hlen : (letN x).length = 9 := rfl
  have hm := many_sum 10 (by omega) (by omega) (x.l.map fun y => rput (entF y)) (by
    intro b hb
    obtain ⟨y, hy, rfl⟩ := List.mem_map.1 hb
    exact (ent_may (hok y hy)).2)
  rw [List.length_map] at hm
  rw [letF_eq]
  refine may_chain _ none 0 (numF_chain _ 1 none _ (by simp) (fun q hq => many_chain 10 _ q (fun a ha => .inl (by have := hq a ha; rw [hlen] at this; omega)))) ?_ (by rw [fsum_append]; omega)
  intro f hf
  rcases List.mem_append.1 hf with hf | hf
  · exact ha f hf
  · obtain ⟨b, hb, rfl⟩ := List.mem_map.1 hf
    obtain ⟨y, hy, rfl⟩ := List.mem_map.1 hb
    have := (ent_may (hok y hy)).2
    exact ⟨alone_b (by omega) (by omega), by simp only [tfv]; omega⟩
end Go.Proofs.Ytcoaofaofmbfbaa

/- The walk of letter.putEntry. -/
namespace Go.Proofs.Ytcoaofaofmbfbaa
open Go.RowKit

theorem is_lit (w : World) (l : List Int) (cs : Array Value) (t : TypeId) (n k : Nat) (h : cs.toList = l.map (Value.int .i64)) (hn : l.length = n) (hk : k = w.heap.size) : Is (w.alloc (.cells cs t)) (some ⟨k, 0, none⟩) n l := by
  subst hk
  have := Rd.block w cs t n (size := 1) (by have := congrArg List.length h; simp at this; omega)
  rw [h] at this
  exact this
theorem numF_fs {w : World} {B : Nat} {A : Option Addr} {n c : Nat} {l : List Int} (h : w.ownsRow B 75 4 (.slice A n c) n (rowOf (numF 1 l))) (hl : ∀ x ∈ l, 0 ≤ x ∧ x ≤ 4611686018427387904) : Fs w A n (numF 1 l) :=
  Fs.of_own h (numF_ok l 1 w hl)
/-- the fields of an entry in memory -/
def entM (y : EV) : List FV := numF 1 [y.term] ++ (if y.b = [] then [] else [⟨2, 2, 0, y.A, y.len, y.cap, y.b⟩])
theorem entM_s {y : EV} (h : y.b.length = y.len) : (entM y).map FV.s = (entF y).map FV.s := by
  unfold entM entF
  rw [List.map_append, List.map_append]
  congr 1
  split
  · rfl
  · simp [FV.s, tfv, h]
theorem entM_ok {y : EV} {w : World} (h : y.Ok w) (he : EntOk y) : ∀ f ∈ entM y, f.Ok w := by
  intro f hf
  rcases List.mem_append.1 hf with hf | hf
  · exact numF_ok [y.term] 1 w (by intro x hx; simp at hx; subst hx; exact ⟨by have := he.t1; omega, by have := he.t2; omega⟩) f hf
  · split at hf
    · simp at hf
    · simp only [List.mem_singleton] at hf
      subst hf
      exact ⟨h.bs, h.le, h.cap, show (0 : Nat) < 18446744073709551616 by decide⟩
theorem numF_one {t : Int} (h : 1 ≤ t) : (numF 1 [t]).length = 1 := by
  rw [numF_cons, if_neg (by omega)]; rfl
set_option maxRecDepth 100000 in
set_option maxHeartbeats 800000 in
theorem letter_putEntry (y : EV) (w : World) (hy : y.Ok w) (he : EntOk y) :
    Calls Try.prog 46 #[.agg #[.int .i64 y.term, .slice y.A y.len y.cap]] w fun e w' => ∃ v, e = .returned (.tuple #[v, .int .i64 0]) ∧ w'.ownsRow w.heap.size 5 1 v (rput (entF y)).length ((rput (entF y)).map bv) ∧ Ext w w' := by
  have hs := entM_s (hy.bs.len)
  have hok := entM_ok hy he
  have hm := s_may hs
  rw [(ent_may he).1] at hm
  have hr := s_rput hs
  have hbl := hy.bs.len
  have h200 := he.b
  have ht1 := he.t1
  have ht2 := he.t2
  have hnum : ∀ x ∈ [y.term], 0 ≤ x ∧ x ≤ 4611686018427387904 := by
    intro x hx; simp at hx; subst hx; exact ⟨by omega, by omega⟩
  have hn1 := numF_one ht1
  have HM := Lib.hid hm
  have HR := Lib.hid hr
  have HS := Lib.hid hs
  have HN1 := Lib.hid hn1
  have HNUM := Lib.hid hnum
  have hcap := hy.cap
  have hle := hy.le
  clear hm hr hs he hn1 hnum
  have hlen : y.len ≤ 200 := by omega
  have HOK := Lib.hid hok
  clear hok
  have hB := Blk.new w 31 [.int .i64 y.term, .slice y.A y.len y.cap]
  have hx0 : Ext w (w.alloc (.cells #[.int .i64 y.term, .slice y.A y.len y.cap] 31)) := (Ext.refl w).alloc _
  go_enter Try.func46, Try.ntmps46
  go_wp2_with fail
  refine (letter_numbers _ _ _ [y.term] _ (is_lit _ _ _ _ 1 _ rfl rfl (by simp)) (by omega) HNUM.out).mono ?_
  rintro e w1 ⟨v1, rfl, hown1, x1⟩
  have xw1 := (hx0.alloc _).trans x1
  have hB1 := (hB.alloc _).ext x1
  have hown1 := own_to (base' := w.heap.size) (n' := 1) hown1 (by simp; omega) HN1.out rfl
  obtain ⟨A1, c1, rfl, _⟩ := own_form hown1
  have hfs := numF_fs hown1 HNUM.out
  have d1 := hB1.cell 1
  simp only [List.getElem?_cons_zero, List.getElem?_cons_succ] at d1
  clear hB hB1 x1 hx0
  by_cases h0 : y.len = 0
  · have hnil : y.b = [] := List.eq_nil_of_length_eq_zero (by omega)
    have HE : Hid (entM y = numF 1 [y.term]) := Lib.hid (by unfold entM; rw [if_pos hnil, List.append_nil])
    have hgt : ¬ ((0 : Int) < y.len) := by omega
    have H0 := Lib.hid h0
    clear h0 hnil
    go_wp2_with fail
    refine (tlv_Put_ok _ _ _ (numF 1 [y.term]) _ hfs (by omega) (by rw [← HE.out]; exact HM.out)).mono ?_
    rintro e w2 ⟨v2, rfl, hown2, x2⟩
    go_wp2
    go_ret2
    rw [← HE.out, HR.out] at hown2
    exact ⟨_, rfl, own_base hown2 xw1.size, xw1.trans x2⟩
  · have hnil : y.b ≠ [] := by intro e; rw [e] at hbl; simp at hbl; omega
    have HE : Hid (entM y = numF 1 [y.term] ++ [⟨2, 2, 0, y.A, y.len, y.cap, y.b⟩]) := Lib.hid (by unfold entM; rw [if_neg hnil])
    have hgt : (0 : Int) < y.len := by omega
    have H0 := Lib.hid h0
    clear h0 hnil
    go_wp2_with (at_builtin; refine wpList_app fieldsT (by omega) _ rfl rfl rfl (hown1.alloc _) rfl (rd_at4 _ (.int .i64 2) (.int .i64 2) (.int .u64 0) (.slice y.A y.len y.cap) _ _ (by simp)) (fcells_one 2 2 0 _ _ _) (by unfold maxLen; omega) (by omega) (by have := xw1.size; simp; omega) ?_; intro v2 w2 hown2 hg2 hat2; have x2 := Below.app (xw1.alloc _) hg2 (by have := xw1.size; simp; omega) (hown1.alloc _) (Nat.le_refl _); obtain ⟨A2, c2, rfl, _⟩ := own_form hown2)
    have hfs2 : Fs w2 A2 (1 + 1) (entM y) := by
      rw [HE.out]
      refine Fs.of_own (own_to hown2 (Nat.le_refl _) rfl ?_) ?_
      · rw [rowOf_append, rowOf_one]; rfl
      · rw [← HE.out]; exact fun f hf => (HOK.out f hf).ext x2
    refine (tlv_Put_ok _ _ _ (entM y) _ hfs2 (by omega) HM.out).mono ?_
    rintro e w3 ⟨v3, rfl, hown3, x3⟩
    go_wp2
    go_ret2
    rw [HR.out] at hown3
    exact ⟨_, rfl, own_base hown3 x2.size, Ext.trans x2 x3⟩
end Go.Proofs.Ytcoaofaofmbfbaa
