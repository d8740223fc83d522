/- Words and walks that the last text of this claim stands on: LtQ, LtT, LtO. No condition. -/
import Derived.Test.YtcoaofaofmbfbaaB15
/- Bytes that are a letter: plain. -/
namespace Go.Proofs.Ytcoaofaofmbfbaa
open Go.RowKit

/-- the bytes b are the letter x with the fields ms behind -/
structure IsLet (b : List UInt8) (x : LV) (ms : List FV) : Prop where
  may : mayB x = true
  low : lowB ms = false
  row : fmay (letF x ++ ms) = 0
  put : rput (letF x ++ ms) = b
  ln : x.l.length = x.n
  bx : ∀ y ∈ x.l, y.b.length = y.len
  bm : ∀ f ∈ ms, U64 f.n ∧ f.len = f.b.length
/-- why bytes are no letter -/
def takeCode (b : List UInt8) : Nat :=
  if (ttrow b).2 ≠ 0 then (ttrow b).2 else if checkN (specL 6 1) (ttrow b).1 ≠ 0 then checkN (specL 6 1) (ttrow b).1 else if readE ((ttrow b).1.filter (loB 10)) ≠ 0 then readE ((ttrow b).1.filter (loB 10)) else 6
theorem lput_is {b : List UInt8} {x : LV} {ms : List FV} (h : lput x ms = (b, 0)) (ln : x.l.length = x.n) (bx : ∀ y ∈ x.l, y.b.length = y.len) (bm : ∀ f ∈ ms, U64 f.n ∧ f.len = f.b.length) : IsLet b x ms := by
  unfold lput at h
  by_cases h1 : mayB x = false
  · rw [if_pos h1] at h; cases h
  · rw [if_neg h1] at h
    by_cases h2 : lowB ms = true
    · rw [if_pos h2] at h; cases h
    · rw [if_neg h2] at h
      by_cases h3 : fmay (letF x ++ ms) = 0
      · rw [if_pos h3] at h
        exact ⟨by simpa using h1, by simpa using h2, h3, (Prod.mk.inj h).1, ln, bx, bm⟩
      · rw [if_neg h3] at h
        exact absurd (Prod.mk.inj h).2 h3
theorem IsLet.lput {b : List UInt8} {x : LV} {ms : List FV} (h : IsLet b x ms) : lput x ms = (b, 0) := by
  unfold Go.Proofs.Ytcoaofaofmbfbaa.lput
  rw [if_neg (by simp [h.may]), if_neg (by simp [h.low]), if_pos h.row, h.put]
theorem IsLet.k {b : List UInt8} {x : LV} {ms : List FV} (h : IsLet b x ms) : ∀ f ∈ letF x ++ ms, U64 f.n ∧ f.len = f.b.length := by
  intro f hf
  rcases List.mem_append.1 hf with hf | hf
  · exact letF_k h.may f hf
  · exact h.bm f hf
theorem IsLet.row_ {b : List UInt8} {x : LV} {ms : List FV} (h : IsLet b x ms) : (ttrow b).2 = 0 ∧ (ttrow b).1.map FV.s = (letF x ++ ms).map FV.s := by
  have h2 := trow_put (letF x ++ ms) none none 0 h.row h.k rfl
  have h3 := (fmay_ok h.row).2
  rw [h.put] at h2
  unfold ttrow
  rw [if_neg (by rw [← h.put, rput_len]; omega)]
  exact h2
theorem letF_low (x : LV) : ∀ f ∈ letF x, f.num ≤ 10 := by
  intro f hf
  rcases List.mem_append.1 hf with hf | hf
  · obtain ⟨i, hi, _, rfl⟩ := numF_mem _ 1 f hf
    simp only [letN, List.length_cons, List.length_nil] at hi
    simp only [tfv]; omega
  · obtain ⟨y, _, rfl⟩ := List.mem_map.1 hf
    simp [tfv]
theorem let_filter (x : LV) {ms : List FV} (hm : lowB ms = false) : (letF x ++ ms).filter (loB 10) = letF x ∧ ((letF x ++ ms).filter fun f => !loB 10 f) = ms := by
  have h1 := letF_low x
  have h2 := low_all hm
  constructor
  · rw [List.filter_append, List.filter_eq_self.2 (fun f hf => by simpa [loB] using h1 f hf), List.filter_eq_nil_iff.2 (fun f hf => by have := h2 f hf; simp [loB]; omega), List.append_nil]
  · rw [List.filter_append, List.filter_eq_nil_iff.2 (fun f hf => by have := h1 f hf; simp [loB]; omega), List.filter_eq_self.2 (fun f hf => by have := h2 f hf; simp [loB]; omega), List.nil_append]

/-! the check -/
theorem cnt_append (k : Int) (l m : List FV) : cnt k (l ++ m) = cnt k l + cnt k m := by simp [cnt]
theorem cnt_numF (k : Nat) : ∀ (l : List Int) (i : Nat), cnt k (numF i l) ≤ 1 ∧ (k < i → cnt k (numF i l) = 0)
  | [], i => ⟨by simp [numF, cnt], fun _ => by simp [numF, cnt]⟩
  | n :: r, i => by
    obtain ⟨h1, h2⟩ := cnt_numF k r (i + 1)
    rw [numF_cons, cnt_append]
    by_cases hn : n = 0
    · rw [if_pos hn]
      have e : cnt (k : Int) [] = 0 := rfl
      rw [e]
      exact ⟨by omega, fun h => by rw [h2 (by omega)]⟩
    · rw [if_neg hn]
      have e : cnt (k : Int) [tfv i 0 n.toNat []] = if i = k then 1 else 0 := by
        by_cases hik : i = k
        · subst hik; simp [cnt, tfv]
        · rw [if_neg hik]; simp [cnt, tfv]; omega
      rw [e]
      by_cases hik : i = k
      · rw [if_pos hik, h2 (by omega)]; exact ⟨by omega, fun h => by omega⟩
      · rw [if_neg hik]; exact ⟨by omega, fun h => by rw [h2 (by omega)]⟩
theorem cnt_in (k : Nat) (l : List Int) (i : Nat) (h1 : i ≤ k) (h2 : k < i + l.length) (hn : l[k - i]'(by omega) ≠ 0) : 0 < cnt k (numF i l) := by
  induction l generalizing i with
  | nil => simp at h2; omega
  | cons a r ih =>
    rw [numF_cons, cnt_append]
    by_cases hik : k = i
    · subst hik
      simp only [Nat.sub_self, List.getElem_cons_zero] at hn
      rw [if_neg hn]
      have : cnt (k : Int) [tfv k 0 a.toNat []] = 1 := by simp [cnt, tfv]
      omega
    · have hidx : k - i = (k - (i + 1)) + 1 := by omega
      have := ih (i + 1) (by omega) (by simp at h2; omega) (by simpa [hidx] using hn)
      omega
theorem spec6 : specL 6 1 = [nN 1, nN 2, nN 3, nN 4, nS 5 1, nS 6 1, nS 7 1, nS 8 1, nS 9 1, bM 10] := by decide
theorem spec_num {x : LV} {ms : List FV} (h : mayB x = true) (hm : lowB ms = false) (s : SpV) (hw : s.wire = 0) (h1 : 1 ≤ s.num) (h9 : s.num ≤ 9) (hn : s.need = true → (letN x)[s.num - 1]'(by simp [letN]; omega) ≠ 0) : specB s (letF x ++ ms) = true := by
  have hlow := low_all hm
  have hbd := letN_bd h
  have hone : oneB s (letF x ++ ms) = true := by
    unfold oneB
    rw [List.all_eq_true]
    intro f hf
    rcases List.mem_append.1 hf with hf | hf
    · rcases List.mem_append.1 hf with hf | hf
      · obtain ⟨i, hi, h0, rfl⟩ := numF_mem _ 1 f hf
        have := hbd (letN x)[i] (List.getElem_mem _)
        have hz : (letN x)[i].toNat ≠ 0 := by omega
        simp [tfv, fullB, hw, hz]
      · obtain ⟨y, _, rfl⟩ := List.mem_map.1 hf
        have : ((tfv 10 2 0 (rput (entF y))).num == (s.num : Int)) = false := by simp [tfv]; omega
        rw [this]; rfl
    · have := hlow f hf
      have : (f.num == (s.num : Int)) = false := by simp; omega
      rw [this]; rfl
  have hc : cnt s.num (letF x ++ ms) = cnt s.num (numF 1 (letN x)) := by
    unfold letF
    rw [cnt_append, cnt_append]
    have e1 : cnt (s.num : Int) (x.l.map fun y => tfv 10 2 0 (rput (entF y))) = 0 := by
      unfold cnt
      rw [List.length_eq_zero_iff, List.filter_eq_nil_iff]
      intro f hf
      obtain ⟨y, _, rfl⟩ := List.mem_map.1 hf
      simp [tfv]; omega
    have e2 : cnt (s.num : Int) ms = 0 := by
      unfold cnt
      rw [List.length_eq_zero_iff, List.filter_eq_nil_iff]
      intro f hf
      have := hlow f hf
      simp; omega
    omega
  unfold specB
  rw [hone, hc, Bool.true_and, decide_eq_true (cnt_numF s.num (letN x) 1).1, Bool.true_or, Bool.true_and]
  by_cases hneed : s.need = true
  · have := cnt_in s.num (letN x) 1 h1 (by simp [letN]; omega) (hn hneed)
    rw [decide_eq_true this]; simp
  · simp at hneed; simp [hneed]
theorem spec_ten {x : LV} {ms : List FV} (h : mayB x = true) (hm : lowB ms = false) (bx : ∀ y ∈ x.l, y.b.length = y.len) : specB (bM 10) (letF x ++ ms) = true := by
  have hlow := low_all hm
  obtain ⟨_, _, _, _, _, _, _, _, _, _, he⟩ := mayB_parts h
  have hok := entsB_ok he bx
  have hone : oneB (bM 10) (letF x ++ ms) = true := by
    unfold oneB
    rw [List.all_eq_true]
    intro f hf
    rcases List.mem_append.1 hf with hf | hf
    · rcases List.mem_append.1 hf with hf | hf
      · obtain ⟨i, hi, h0, rfl⟩ := numF_mem _ 1 f hf
        simp only [letN, List.length_cons, List.length_nil] at hi
        have : ((tfv (1 + i) 0 (letN x)[i].toNat []).num == ((bM 10).num : Int)) = false := by simp [tfv, bM]; omega
        rw [this]; rfl
      · obtain ⟨y, hy, rfl⟩ := List.mem_map.1 hf
        have := List.length_pos_iff.2 (ent_ne (hok y hy))
        simp [tfv, fullB, bM, this]
    · have := hlow f hf
      have : (f.num == ((bM 10).num : Int)) = false := by simp [bM]; omega
      rw [this]; rfl
  unfold specB
  rw [hone]
  simp [bM]
theorem let_check {x : LV} {ms : List FV} (h : mayB x = true) (hm : lowB ms = false) (bx : ∀ y ∈ x.l, y.b.length = y.len) (hr : fmay (letF x ++ ms) = 0) : checkN (specL 6 1) (letF x ++ ms) = 0 := by
  obtain ⟨p1, p2, p3, _, p4, p5, _⟩ := mayB_parts h
  unfold checkN
  rw [spec6, if_neg (by simp), hr, if_neg (by simp), if_pos]
  have g := fun s hw h1 h9 hn => spec_num h hm s hw h1 h9 hn
  simp only [okB, List.all_cons, List.all_nil, Bool.and_true, Bool.and_eq_true]
  refine ⟨g _ rfl (by decide) (by decide) (fun _ => by show x.kind ≠ 0; omega), g _ rfl (by decide) (by decide) (fun _ => by show x.src + 1 ≠ 0; omega), g _ rfl (by decide) (by decide) (fun _ => by show x.dst + 1 ≠ 0; omega), g _ rfl (by decide) (by decide) (fun _ => by show x.term ≠ 0; omega),
    g _ rfl (by decide) (by decide) (fun h => by cases h), g _ rfl (by decide) (by decide) (fun h => by cases h), g _ rfl (by decide) (by decide) (fun h => by cases h), g _ rfl (by decide) (by decide) (fun h => by cases h), g _ rfl (by decide) (by decide) (fun h => by cases h), spec_ten h hm bx⟩

/-! reading -/
theorem readE_num : ∀ (l : List FV), (∀ f ∈ l, f.num ≠ 10) → readE l = 0
  | [], _ => rfl
  | f :: r, h => by rw [readE_cons, if_neg (fun k => h f (by simp) k.1)]; exact readE_num r fun g hg => h g (by simp [hg])
theorem readE_ents : ∀ (l : List EV), (∀ y ∈ l, EntOk y) → readE (l.map fun y => tfv 10 2 0 (rput (entF y))) = 0
  | [], _ => rfl
  | y :: r, h => by
    rw [List.map_cons, readE_cons, if_neg (fun k => k.2 (ent_code (h y (by simp))))]
    exact readE_ents r fun z hz => h z (by simp [hz])
theorem let_readE {x : LV} (h : mayB x = true) (bx : ∀ y ∈ x.l, y.b.length = y.len) : readE (letF x) = 0 := by
  obtain ⟨_, _, _, _, _, _, _, _, _, _, he⟩ := mayB_parts h
  unfold letF
  rw [readE_app, readE_num (numF 1 (letN x)), if_pos rfl]
  · exact readE_ents _ (entsB_ok he bx)
  · intro f hf
    obtain ⟨i, hi, _, rfl⟩ := numF_mem _ 1 f hf
    simp only [letN, List.length_cons, List.length_nil] at hi
    simp [tfv]; omega
theorem fold_step (X : RC) (n : Int) (k : Nat) (R : List FV) : ((if n = 0 then [] else [tfv k 0 n.toNat []]) ++ R).foldl rdStep X = R.foldl rdStep (if n = 0 then X else rdStep X (tfv k 0 n.toNat [])) := by
  by_cases h : n = 0
  · rw [if_pos h, if_pos h]; rfl
  · rw [if_neg h, if_neg h]; rfl
theorem fold_ents : ∀ (l : List EV) (X : RC), (∀ y ∈ l, EntOk y) → (l.map fun y => tfv 10 2 0 (rput (entF y))).foldl rdStep X = { X with l := X.l ++ l.map EV.p }
  | [], X, _ => by simp
  | y :: r, X, h => by
    rw [List.map_cons, List.foldl_cons]
    have e : rdStep X (tfv 10 2 0 (rput (entF y))) = { X with l := X.l ++ [y.p] } := by
      have := ent_of (h y (by simp))
      simp [rdStep, tfv, this]
    rw [e, fold_ents r _ fun z hz => h z (by simp [hz])]
    simp
theorem let_readO {x : LV} (h : mayB x = true) (bx : ∀ y ∈ x.l, y.b.length = y.len) : readO (letF x) = x.rc := by
  obtain ⟨p1, p2, p3, _, p4, p5, p6, p7, p8, _, he⟩ := mayB_parts h
  have w1 := wrap_nat (n := x.kind) (by omega) (by omega)
  have w2 := wrap_nat (n := x.src + 1) (by omega) (by omega)
  have w3 := wrap_nat (n := x.dst + 1) (by omega) (by omega)
  have w4 := wrap_nat (n := x.term) (by omega) (by omega)
  have w5 := wrap_nat (n := x.bin) (by omega) (by omega)
  have w6 := wrap_nat (n := x.a) (by omega) (by omega)
  have w7 := wrap_nat (n := x.b) (by omega) (by omega)
  have w8 := wrap_nat (n := x.c) (by omega) (by omega)
  have w9 := wrap_nat (n := 1) (by omega) (by omega)
  have v2 : IntKind.i64.wrap x.src = x.src := by exact IntWalk.i64_in _ ⟨by omega, by omega⟩
  have v3 : IntKind.i64.wrap x.dst = x.dst := by exact IntWalk.i64_in _ ⟨by omega, by omega⟩
  unfold readO letF letN
  simp only [numF_cons, numF_nil, List.append_assoc]
  rw [fold_step, fold_step, fold_step, fold_step, fold_step, fold_step, fold_step, fold_step, fold_step]
  rw [show (if x.kind = 0 then RC.zero else rdStep RC.zero (tfv 1 0 x.kind.toNat [])) = ⟨x.kind, 0, 0, 0, 0, 0, 0, 0, false, []⟩ by
    rw [if_neg (by omega)]; simp [rdStep, tfv, RC.zero, w1, -Int.ofNat_toNat]]
  rw [show (if x.src + 1 = 0 then (⟨x.kind, 0, 0, 0, 0, 0, 0, 0, false, []⟩ : RC) else rdStep ⟨x.kind, 0, 0, 0, 0, 0, 0, 0, false, []⟩ (tfv (1 + 1) 0 (x.src + 1).toNat [])) = ⟨x.kind, x.src, 0, 0, 0, 0, 0, 0, false, []⟩ by
    rw [if_neg (by omega)]; simp [rdStep, tfv, w2, v2, -Int.ofNat_toNat]]
  rw [show (if x.dst + 1 = 0 then (⟨x.kind, x.src, 0, 0, 0, 0, 0, 0, false, []⟩ : RC) else rdStep ⟨x.kind, x.src, 0, 0, 0, 0, 0, 0, false, []⟩ (tfv (1 + 1 + 1) 0 (x.dst + 1).toNat [])) = ⟨x.kind, x.src, x.dst, 0, 0, 0, 0, 0, false, []⟩ by
    rw [if_neg (by omega)]; simp [rdStep, tfv, w3, v3, -Int.ofNat_toNat]]
  rw [show (if x.term = 0 then (⟨x.kind, x.src, x.dst, 0, 0, 0, 0, 0, false, []⟩ : RC) else rdStep ⟨x.kind, x.src, x.dst, 0, 0, 0, 0, 0, false, []⟩ (tfv (1 + 1 + 1 + 1) 0 x.term.toNat [])) = ⟨x.kind, x.src, x.dst, x.term, 0, 0, 0, 0, false, []⟩ by
    rw [if_neg (by omega)]; simp [rdStep, tfv, w4, -Int.ofNat_toNat]]
  rw [show (if x.bin = 0 then (⟨x.kind, x.src, x.dst, x.term, 0, 0, 0, 0, false, []⟩ : RC) else rdStep ⟨x.kind, x.src, x.dst, x.term, 0, 0, 0, 0, false, []⟩ (tfv (1 + 1 + 1 + 1 + 1) 0 x.bin.toNat [])) = ⟨x.kind, x.src, x.dst, x.term, x.bin, 0, 0, 0, false, []⟩ by
    rw [if_neg (by omega)]; simp [rdStep, tfv, w5, -Int.ofNat_toNat]]
  rw [show (if x.a = 0 then (⟨x.kind, x.src, x.dst, x.term, x.bin, 0, 0, 0, false, []⟩ : RC) else rdStep ⟨x.kind, x.src, x.dst, x.term, x.bin, 0, 0, 0, false, []⟩ (tfv (1 + 1 + 1 + 1 + 1 + 1) 0 x.a.toNat [])) = ⟨x.kind, x.src, x.dst, x.term, x.bin, x.a, 0, 0, false, []⟩ by
    by_cases z : x.a = 0
    · rw [if_pos z, z]
    · rw [if_neg z]; simp [rdStep, tfv, w6, -Int.ofNat_toNat]]
  rw [show (if x.b = 0 then (⟨x.kind, x.src, x.dst, x.term, x.bin, x.a, 0, 0, false, []⟩ : RC) else rdStep ⟨x.kind, x.src, x.dst, x.term, x.bin, x.a, 0, 0, false, []⟩ (tfv (1 + 1 + 1 + 1 + 1 + 1 + 1) 0 x.b.toNat [])) = ⟨x.kind, x.src, x.dst, x.term, x.bin, x.a, x.b, 0, false, []⟩ by
    by_cases z : x.b = 0
    · rw [if_pos z, z]
    · rw [if_neg z]; simp [rdStep, tfv, w7, -Int.ofNat_toNat]]
  rw [show (if x.c = 0 then (⟨x.kind, x.src, x.dst, x.term, x.bin, x.a, x.b, 0, false, []⟩ : RC) else rdStep ⟨x.kind, x.src, x.dst, x.term, x.bin, x.a, x.b, 0, false, []⟩ (tfv (1 + 1 + 1 + 1 + 1 + 1 + 1 + 1) 0 x.c.toNat [])) = ⟨x.kind, x.src, x.dst, x.term, x.bin, x.a, x.b, x.c, false, []⟩ by
    by_cases z : x.c = 0
    · rw [if_pos z, z]
    · rw [if_neg z]; simp [rdStep, tfv, w8, -Int.ofNat_toNat]]
  rw [show (if (if x.ok = true then (1 : Int) else 0) = 0 then (⟨x.kind, x.src, x.dst, x.term, x.bin, x.a, x.b, x.c, false, []⟩ : RC) else rdStep ⟨x.kind, x.src, x.dst, x.term, x.bin, x.a, x.b, x.c, false, []⟩ (tfv (1 + 1 + 1 + 1 + 1 + 1 + 1 + 1 + 1) 0 (if x.ok = true then (1 : Int) else 0).toNat [])) = ⟨x.kind, x.src, x.dst, x.term, x.bin, x.a, x.b, x.c, x.ok, []⟩ by
    rcases x.ok with _ | _
    · simp
    · have : IntKind.i64.wrap 1 = 1 := IntWalk.i64_in _ ⟨by omega, by omega⟩
      simp [rdStep, tfv, this]]
  rw [List.nil_append, fold_ents _ _ (entsB_ok he bx)]
  simp [LV.rc]
/-- whatever is a letter is read as it -/
theorem IsLet.all {b : List UInt8} {x : LV} {ms : List FV} (h : IsLet b x ms) : (ttrow b).2 = 0 ∧ checkN (specL 6 1) (ttrow b).1 = 0 ∧ (∀ P : List FV, P.map FV.s = ((ttrow b).1.filter (loB 10)).map FV.s → P.map FV.s = (letF x).map FV.s) ∧
    (∀ Q : List FV, Q.map FV.s = ((ttrow b).1.filter (fun f => !loB 10 f)).map FV.s → Q.map FV.s = ms.map FV.s) := by
  obtain ⟨h1, h2⟩ := h.row_
  obtain ⟨f1, f2⟩ := let_filter x h.low
  obtain ⟨g1, g2⟩ := s_filter h2 10
  rw [f1] at g1
  rw [f2] at g2
  exact ⟨h1, by rw [s_check h2]; exact let_check h.may h.low h.bx h.row, fun P hP => hP.trans g1, fun Q hQ => hQ.trans g2⟩
theorem s_readE {l m : List FV} (h : l.map FV.s = m.map FV.s) : readE l = readE m := by
  induction l generalizing m with
  | nil => cases m with | nil => rfl | cons b r => simp at h
  | cons a l ih =>
    cases m with
    | nil => simp at h
    | cons b r =>
      simp only [List.map_cons, List.cons.injEq] at h
      have hs := h.1
      simp only [FV.s, Prod.mk.injEq] at hs
      rw [readE_cons, readE_cons, hs.1, hs.2.2.2.2, ih h.2]
theorem s_readO {l m : List FV} (h : l.map FV.s = m.map FV.s) : readO l = readO m := by
  have e : ∀ (l m : List FV) p, l.map FV.s = m.map FV.s → l.foldl rdStep p = m.foldl rdStep p := by
    intro l
    induction l with
    | nil => intro m p h; cases m with | nil => rfl | cons b r => simp at h
    | cons a l ih =>
      intro m p h
      cases m with
      | nil => simp at h
      | cons b r =>
        simp only [List.map_cons, List.cons.injEq] at h
        have hs := h.1
        simp only [FV.s, Prod.mk.injEq] at hs
        rw [List.foldl_cons, List.foldl_cons, show rdStep p a = rdStep p b by unfold rdStep; rw [hs.1, hs.2.2.1, hs.2.2.2.2]]
        exact ih r _ h.2
  exact e l m _ h
theorem mayB_rc {x y : LV} (h : x.rc = y.rc) (lx : x.l.length = x.n) (ly : y.l.length = y.n) (bx : ∀ z ∈ x.l, z.b.length = z.len) (by_ : ∀ z ∈ y.l, z.b.length = z.len) : mayB x = mayB y := by
  simp only [LV.rc, RC.mk.injEq] at h
  obtain ⟨h1, h2, h3, h4, h5, h6, h7, h8, h9, h10⟩ := h
  have hn : x.n = y.n := by have := congrArg List.length h10; simp at this; omega
  have e : ∀ {l : List EV}, (∀ z ∈ l, z.b.length = z.len) → entsB l = (l.map EV.p).all fun p => inB p.1 1 1048576 && decide (p.2.length ≤ 200) := by
    intro l hl
    unfold entsB
    rw [List.all_map]
    rw [Bool.eq_iff_iff, List.all_eq_true, List.all_eq_true]
    constructor
    · intro h z hz; have := h z hz; simpa [EV.p, hl z hz] using this
    · intro h z hz; have := h z hz; simpa [EV.p, hl z hz] using this
  have he : entsB x.l = entsB y.l := by rw [e bx, e by_, h10]
  unfold mayB
  rw [h1, h2, h3, h4, h5, h6, h7, h8, h9, hn, he]
theorem IsLet.many {b : List UInt8} {x : LV} {ms : List FV} (h : IsLet b x ms) : ms.length ≤ 16384 := by
  have h1 := fmay_ok h.row
  have h2 := rput_field_le _ h1.1
  have h3 := h1.2
  rw [rput_len, List.length_append] at h2
  omega
/-- what was read fits what is there: Put gives the bytes back -/
theorem IsLet.back {b : List UInt8} {x y : LV} {ms Q : List FV} (h : IsLet b y ms) (hr : x.rc = y.rc) (lx : x.l.length = x.n) (bx : ∀ z ∈ x.l, z.b.length = z.len) (hQ : Q.map FV.s = ms.map FV.s) : Go.Proofs.Ytcoaofaofmbfbaa.lput x Q = (b, 0) := by
  have hp := rc_p.1 hr
  have hl : lowB Q = lowB ms := by
    unfold lowB
    have e : ∀ l : List FV, (l.any fun f => decide (f.num ≤ 10)) = (l.map FV.s).any fun p => decide (p.1 ≤ 10) := by intro l; rw [List.any_map]; rfl
    rw [e, e, hQ]
  have hs : (letF x ++ Q).map FV.s = (letF y ++ ms).map FV.s := by rw [List.map_append, List.map_append, let_same hp, hQ]
  unfold Go.Proofs.Ytcoaofaofmbfbaa.lput
  rw [mayB_rc hr lx h.ln bx h.bx, if_neg (by simp [h.may]), hl, if_neg (by simp [h.low]), s_may hs, if_pos h.row, s_rput hs, h.put]
end Go.Proofs.Ytcoaofaofmbfbaa

/- The walk of letter.Take. (Printed by wip/tools/lttake.py.) -/
namespace Go.Proofs.Ytcoaofaofmbfbaa
open Go.RowKit

theorem OwnR.st10 {w : World} {B g : Nat} {v' : Value} {r : List FV} (h : OwnR w B v' r) (hg : g < B) (a b c d e f i j k v : Value) : OwnR (put10 w g a b c d e f i j k v) B v' r := by
  unfold put10
  exact (((((((((h.set (p := ⟨g, 0, none⟩) hg a).set (p := ⟨g, 1, none⟩) hg b).set (p := ⟨g, 2, none⟩) hg c).set (p := ⟨g, 3, none⟩) hg d).set (p := ⟨g, 4, none⟩) hg e).set (p := ⟨g, 5, none⟩) hg f).set (p := ⟨g, 6, none⟩) hg i).set (p := ⟨g, 7, none⟩) hg j).set (p := ⟨g, 8, none⟩) hg k).set (p := ⟨g, 9, none⟩) hg v
def zeroX : LV := ⟨0, 0, 0, 0, 0, 0, 0, 0, false, none, 0, 0, []⟩
/-- what Take says of bytes -/
def IsTaken (b : List UInt8) (x : LV) (ms : List FV) (code : Nat) : Prop :=
  (code = 0 ∧ IsLet b x ms) ∨ (code ≠ 0 ∧ x = zeroX ∧ ms = [] ∧ code = takeCode b ∧ ∀ y Q, ¬ IsLet b y Q)
def TakePost (b : List UInt8) (w : World) (e : Ending) (w' : World) : Prop :=
  ∃ (x : LV) (A : Option Addr) (n c : Nat) (ms : List FV) (code : Nat), e = .returned (.tuple #[x.val, .slice A n c, .int .i64 code]) ∧ OwnX w' w.heap.size x ∧ Fs w' A n ms ∧ n ≤ c ∧ c ≤ maxLen ∧ x.n ≤ 20000 ∧ IsTaken b x ms code ∧ Ext w w'
set_option maxRecDepth 100000 in
set_option maxHeartbeats 6400000 in
theorem letter_Take (A : Option Addr) (n c : Nat) (b : List UInt8) (w : World) (hb : Bs w A n b) (hn : n ≤ 100000) (hnc : n ≤ c) :
    Calls Try.prog 18 #[.slice A n c] w (TakePost b w) := by
  have hG := Blk.new w 26 [.int .i64 0, .int .i64 0, .int .i64 0, .int .i64 0, .int .i64 0, .int .i64 0, .int .i64 0, .int .i64 0, .bool false, .slice none 0 0]
  have xw : Ext w (w.alloc (.cells #[.int .i64 0, .int .i64 0, .int .i64 0, .int .i64 0, .int .i64 0, .int .i64 0, .int .i64 0, .int .i64 0, .bool false, .slice none 0 0] 26)) := (Ext.refl w).alloc _
  have HT := Lib.hid (tlv_Take_any A n c b (w.alloc (.cells #[.int .i64 0, .int .i64 0, .int .i64 0, .int .i64 0, .int .i64 0, .int .i64 0, .int .i64 0, .int .i64 0, .bool false, .slice none 0 0] 26)) (hb.ext xw) hn hnc)
  have HTC : Hid (takeCode b = if (ttrow b).2 ≠ 0 then (ttrow b).2 else if checkN (specL 6 1) (ttrow b).1 ≠ 0 then checkN (specL 6 1) (ttrow b).1 else if readE ((ttrow b).1.filter (loB 10)) ≠ 0 then readE ((ttrow b).1.filter (loB 10)) else 6) := Lib.hid rfl
  have HA := Lib.hid (fun (y : LV) (Q : List FV) (h : IsLet b y Q) => h.all)
  have HS := Lib.hid (fun h => ttrow_sound (l := b) h)
  have HTOP := Lib.hid top6
  generalize ttrow b = tr at *
  obtain ⟨L, er⟩ := tr
  dsimp only at HT HTC HA HS
  have HBB := Lib.hid hb
  clear hb
  have HE : Hid (∀ (W : World) (e : Ending), TakePost b w e W ↔ ∃ (x : LV) (A : Option Addr) (n c : Nat) (ms : List FV) (code : Nat), e = .returned (.tuple #[x.val, .slice A n c, .int .i64 code]) ∧ OwnX W w.heap.size x ∧ Fs W A n ms ∧ n ≤ c ∧ c ≤ maxLen ∧ x.n ≤ 20000 ∧ IsTaken b x ms code ∧ Ext w W) := Lib.hid fun _ _ => Iff.rfl
  go_enter Try.func18, Try.ntmps18
  go_wp2_with fail
  refine HT.out.mono ?_
  rintro e w1 ⟨A1, c1, ms, rfl, hf, hs, hc1, x1⟩
  replace hG := hG.ext x1
  replace xw := xw.trans x1
  clear HT x1
  by_cases her : er = 0
  · subst her
    have hml : ms.length ≤ 16384 := by
      obtain ⟨k1, k2, k3⟩ := HS.out rfl
      have h1 := rput_field_le L (fmay_ok k3).1
      rw [k2] at h1
      have : ms.length = L.length := by have := congrArg List.length hs; simpa using this
      omega
    have hmok : ∀ f ∈ ms, f.len ≤ 16384 := by
      obtain ⟨k1, k2, k3⟩ := HS.out rfl
      rw [← s_may hs] at k3
      exact fun f hf => ((fmay_ok k3).1 f hf).2
    have HSS := Lib.hid hs
    obtain ⟨code, hcode⟩ : ∃ k, k = checkN (specL 6 1) ms := ⟨_, rfl⟩
    have HCC : Hid (checkN (specL 6 1) L = code) := Lib.hid (by rw [hcode, s_check hs])
    have HC := Lib.hid (forms_Check 6 1 A1 ms.length c1 ms w1 hf (by omega))
    rw [← hcode] at HC
    clear hs HS hcode
    go_wp2_with fail
    refine HC.out.mono ?_
    rintro e w2 ⟨rfl, x2⟩
    replace hG := hG.ext x2
    replace xw := xw.trans x2
    replace hf := hf.ext x2
    clear x2 HC
    by_cases hcd : code = 0
    · subst hcd
      go_wp2_with fail
      refine (forms_Top 6 1 _).mono ?_
      rintro e w3 ⟨rfl, x3⟩
      rw [HTOP.out]
      replace hG := hG.ext x3
      replace xw := xw.trans x3
      replace hf := hf.ext x3
      have hlt3 : w.heap.size < w3.heap.size := hG.lt
      have HSP := Lib.hid (tlv_Split_own 10 A1 ms.length c1 ms w3 hf (by omega) (fun f hf => by have := hmok f hf; omega))
      clear x3 hf
      go_wp2_with fail
      refine HSP.out.mono ?_
      rintro e w4 ⟨vK, vQ, P, Q, rfl, ownP, ownQ, okP, okQ, sP, sQ, x4⟩
      replace hG := hG.ext x4
      replace xw := xw.trans x4
      have hPL := s_filter HSS.out 10
      have HPS : Hid (P.map FV.s = (L.filter (loB 10)).map FV.s) := Lib.hid (sP.trans hPL.1)
      have HQS : Hid (Q.map FV.s = (L.filter (fun f => !loB 10 f)).map FV.s) := Lib.hid (sQ.trans hPL.2)
      have hPl : P.length ≤ 16384 := by have h1 := congrArg List.length sP; rw [List.length_map, List.length_map] at h1; have := List.length_filter_le (loB 10) ms; omega
      have hQl : Q.length ≤ 16384 := by have h1 := congrArg List.length sQ; rw [List.length_map, List.length_map] at h1; have := List.length_filter_le (fun f => !loB 10 f) ms; omega
      have hPok : ∀ f ∈ P, f.len ≤ 16384 := fun f hf => by
        have : f.s ∈ (ms.filter (loB 10)).map FV.s := by rw [← sP]; exact List.mem_map_of_mem hf
        obtain ⟨g, hg, e⟩ := List.mem_map.1 this
        have := hmok g (List.mem_filter.1 hg).1
        simp only [FV.s, Prod.mk.injEq] at e
        omega
      obtain ⟨AP, cP, rfl, _⟩ := own_form ownP
      obtain ⟨AQ, cQ, rfl, hcQ⟩ := own_form ownQ
      have hcQm := (own_bounds ownQ).2
      have hw3 := hlt3
      have hfP := Fs.of_own ownP fun f hf => (okP f hf).ok
      have hfQ : OwnR w4 (w.heap.size + 1) (.slice AQ Q.length cQ) Q := ⟨own_base ownQ (by omega), fun f hf => (okQ f hf).to (by omega)⟩
      have HBM : Hid (∀ f ∈ Q, U64 f.n ∧ f.len = f.b.length) := Lib.hid fun f hf => ⟨(okQ f hf).ok.u, (okQ f hf).ok.bs.len.symm⟩
      clear HSP ownP ownQ okP okQ sP sQ x4 hPL hmok
      have HRD := Lib.hid (letter_read AP P.length cP P w4 hfP (by omega) hPok)
      have hwsz := xw.size
      clear hfP hPok
      go_wp2_with fail
      refine HRD.out.mono ?_
      rintro e w5 ⟨x, rfl, hox, hrc, hxn, x5⟩
      replace hG := hG.ext x5
      replace xw := xw.trans x5
      replace hfQ := hfQ.ext x5
      replace hox := hox.to (B' := w.heap.size) (by omega)
      clear HRD x5
      obtain ⟨re, hre⟩ : ∃ k, k = readE P := ⟨_, rfl⟩
      rw [← hre] at hrc ⊢
      have HRE := Lib.hid hre
      clear hre
      unfold LV.val
      go_upto_region 9 with fail
      have hgX : w.heap.size < w5.heap.size := hG.lt
      have hX := Blk.new w5 26 [.int .i64 x.kind, .int .i64 x.src, .int .i64 x.dst, .int .i64 x.term, .int .i64 x.a, .int .i64 x.b, .int .i64 x.c, .int .i64 x.bin, .bool x.ok, .slice x.A x.n x.cp]
      have x6 : Ext w5 (w5.alloc (.cells #[.int .i64 x.kind, .int .i64 x.src, .int .i64 x.dst, .int .i64 x.term, .int .i64 x.a, .int .i64 x.b, .int .i64 x.c, .int .i64 x.bin, .bool x.ok, .slice x.A x.n x.cp] 26)) := (Ext.refl w5).alloc _
      replace hG := hG.ext x6
      replace xw := xw.trans x6
      replace hfQ := hfQ.ext x6
      replace hox := hox.ext x6
      have hsz5 := xw.size
      clear x6
      generalize hgX2 : w5.heap.size = gX at hX hgX ⊢
      generalize w5.alloc (.cells #[.int .i64 x.kind, .int .i64 x.src, .int .i64 x.dst, .int .i64 x.term, .int .i64 x.a, .int .i64 x.b, .int .i64 x.c, .int .i64 x.bin, .bool x.ok, .slice x.A x.n x.cp] 26) = W5 at *
      clear hgX2
      by_cases hre0 : re = 0
      · subst hre0
        have HRC : Hid (x.rc = readO P) := Lib.hid (by rw [hrc, if_pos rfl])
        have HPUT := Lib.hid (letter_Put x AQ Q.length cQ Q W5 hox.ok (by omega) (hfQ.fs rfl) (by omega))
        have HLI := Lib.hid (fun (b : List UInt8) (h : lput x Q = (b, 0)) => lput_is h hox.ok.es.len (fun y hy => (hox.ok.es.ok y hy).bs.len) HBM.out)
        have HBK : Hid (∀ y R, IsLet b y R → lput x Q = (b, 0)) := Lib.hid (fun y R h => by
          obtain ⟨_, _, k3, k4⟩ := HA.out y R h
          have e1 := k3 P HPS.out
          exact h.back (by rw [HRC.out, s_readO e1, let_readO h.may h.bx]) hox.ok.es.len (fun z hz => (hox.ok.es.ok z hz).bs.len) (k4 Q HQS.out))
        generalize lput x Q = pp at *
        obtain ⟨p, ep⟩ := pp
        unfold LV.val at HPUT
        dsimp only at HPUT
        clear hrc
        have q0 := hX.cell 0
        have q1 := hX.cell 1
        have q2 := hX.cell 2
        have q3 := hX.cell 3
        have q4 := hX.cell 4
        have q5 := hX.cell 5
        have q6 := hX.cell 6
        have q7 := hX.cell 7
        have q8 := hX.cell 8
        have q9 := hX.cell 9
        simp only [List.getElem?_cons_zero, List.getElem?_cons_succ] at q0 q1 q2 q3 q4 q5 q6 q7 q8 q9
        go_wp2_with fail
        refine HPUT.out.mono ?_
        rintro e w7 ⟨v7, rfl, hown7, x7⟩
        obtain ⟨A7, c7, rfl, _⟩ := own_form hown7
        replace hG := hG.ext x7
        have hX7 := hX.ext x7
        have hox7 := hox.ext x7
        have hf7 := hfQ.ext x7
        have xw7 := xw.trans x7
        have hb7 := HBB.out.ext xw7
        have hp7 : Bs w7 A7 p.length p := Bs.of_own hown7
        clear HPUT q0 q1 q2 q3 q4 q5 q6 q7 q8 q9 hX x7 hox hfQ xw hown7
        by_cases hep : ep = 0
        · subst hep
          by_cases hpb : p = b
          · subst hpb
            have HIL := Lib.hid (HLI.out p rfl)
            have HEQ := Lib.hid (bytes_Equal A7 A p.length n c7 c p p true (by simp) w7 hp7 hb7)
            have hbe : ((0 : Int) != 0) = false := rfl
            clear hp7 hb7 HBK HLI
            go_wp2_with fail
            refine HEQ.out.mono ?_
            rintro e w8 ⟨rfl, rfl⟩
            have HOX := Lib.hid hox7
            have HF7 := Lib.hid hf7
            have HX7 := Lib.hid hX7
            clear HEQ hox7 hf7
            have q0 := hX7.cell 0
            have q1 := hX7.cell 1
            have q2 := hX7.cell 2
            have q3 := hX7.cell 3
            have q4 := hX7.cell 4
            have q5 := hX7.cell 5
            have q6 := hX7.cell 6
            have q7 := hX7.cell 7
            have q8 := hX7.cell 8
            have q9 := hX7.cell 9
            simp only [List.getElem?_cons_zero, List.getElem?_cons_succ] at q0 q1 q2 q3 q4 q5 q6 q7 q8 q9
            have g0 := hG.cell 0
            have g1 := hG.cell 1
            have g2 := hG.cell 2
            have g3 := hG.cell 3
            have g4 := hG.cell 4
            have g5 := hG.cell 5
            have g6 := hG.cell 6
            have g7 := hG.cell 7
            have g8 := hG.cell 8
            have g9 := hG.cell 9
            simp only [List.getElem?_cons_zero, List.getElem?_cons_succ] at g0 g1 g2 g3 g4 g5 g6 g7 g8 g9
            have z0 := hG.frozen 0
            have z1 := hG.frozen 1
            have z2 := hG.frozen 2
            have z3 := hG.frozen 3
            have z4 := hG.frozen 4
            have z5 := hG.frozen 5
            have z6 := hG.frozen 6
            have z7 := hG.frozen 7
            have z8 := hG.frozen 8
            have z9 := hG.frozen 9
            have HGG := Lib.hid hG
            clear hG hX7
            go_wp2_with fail
            refine bodyPost_ret (v := .tuple #[x.val, .slice AQ Q.length cQ, .int .i64 0]) (by simp [results, Try.results18, go_sem, LV.val, g0, g1, g2, g3, g4, g5, g6, g7, g8, g9]) rfl ?_
            refine (HE.out _ _).2 ⟨x, AQ, Q.length, cQ, Q, 0, rfl, HOX.out.st10 HGG.out (.int .i64 x.kind) (.int .i64 x.src) (.int .i64 x.dst) (.int .i64 x.term) (.int .i64 x.a) (.int .i64 x.b) (.int .i64 x.c) (.int .i64 x.bin) (.bool x.ok) (.slice x.A x.n x.cp), ?_, hcQ, hcQm, by omega, .inl ⟨rfl, HIL.out⟩, xw7.st10 (Nat.le_refl _) (.int .i64 x.kind) (.int .i64 x.src) (.int .i64 x.dst) (.int .i64 x.term) (.int .i64 x.a) (.int .i64 x.b) (.int .i64 x.c) (.int .i64 x.bin) (.bool x.ok) (.slice x.A x.n x.cp)⟩
            exact (HF7.out.st10 (by omega) (.int .i64 x.kind) (.int .i64 x.src) (.int .i64 x.dst) (.int .i64 x.term) (.int .i64 x.a) (.int .i64 x.b) (.int .i64 x.c) (.int .i64 x.bin) (.bool x.ok) (.slice x.A x.n x.cp)).fs rfl
          · have HEQ := Lib.hid (bytes_Equal A7 A p.length n c7 c p b false (by simpa using hpb) w7 hp7 hb7)
            have HNO : Hid (∀ y R, ¬ IsLet b y R) := Lib.hid (fun y R h => by have := HBK.out y R h; injection this with this _; exact hpb this)
            clear hp7 hb7 HBK HLI hpb
            go_wp2_with fail
            refine HEQ.out.mono ?_
            rintro e w8 ⟨rfl, rfl⟩
            clear HEQ hX7 hox7 hf7
            have g0 := hG.cell 0
            have g1 := hG.cell 1
            have g2 := hG.cell 2
            have g3 := hG.cell 3
            have g4 := hG.cell 4
            have g5 := hG.cell 5
            have g6 := hG.cell 6
            have g7 := hG.cell 7
            have g8 := hG.cell 8
            have g9 := hG.cell 9
            simp only [List.getElem?_cons_zero, List.getElem?_cons_succ] at g0 g1 g2 g3 g4 g5 g6 g7 g8 g9
            have z0 := hG.frozen 0
            have z1 := hG.frozen 1
            have z2 := hG.frozen 2
            have z3 := hG.frozen 3
            have z4 := hG.frozen 4
            have z5 := hG.frozen 5
            have z6 := hG.frozen 6
            have z7 := hG.frozen 7
            have z8 := hG.frozen 8
            have z9 := hG.frozen 9
            have HGG := Lib.hid hG
            clear hG
            go_wp2_with fail
            refine bodyPost_ret (v := .tuple #[.agg #[.int .i64 0, .int .i64 0, .int .i64 0, .int .i64 0, .int .i64 0, .int .i64 0, .int .i64 0, .int .i64 0, .bool false, .slice none 0 0], .slice none 0 0, .int .i64 6]) (by simp [results, Try.results18, go_sem, g0, g1, g2, g3, g4, g5, g6, g7, g8, g9]) rfl ?_
            exact (HE.out _ _).2 ⟨zeroX, none, 0, 0, [], 6, rfl, OwnX.zero _ _, Fs.nil_ _ _, Nat.le_refl _, by unfold maxLen; omega, Nat.zero_le _, .inr ⟨by omega, rfl, rfl, (by rw [HTC.out, if_neg (by simp), if_neg (by rw [HCC.out]; simp), ← s_readE HPS.out, ← HRE.out, if_neg (by simp)]), HNO.out⟩, xw7.st10 (Nat.le_refl _) (.int .i64 0) (.int .i64 0) (.int .i64 0) (.int .i64 0) (.int .i64 0) (.int .i64 0) (.int .i64 0) (.int .i64 0) (.bool false) (.slice none 0 0)⟩

        · have HNO : Hid (∀ y R, ¬ IsLet b y R) := Lib.hid (fun y R h => by have := HBK.out y R h; injection this with _ this; exact hep this)
          have hep' := bne_t (show ((ep : Nat) : Int) ≠ 0 by omega)
          clear hp7 hb7 HBK HLI hep hX7 hox7 hf7
          have g0 := hG.cell 0
          have g1 := hG.cell 1
          have g2 := hG.cell 2
          have g3 := hG.cell 3
          have g4 := hG.cell 4
          have g5 := hG.cell 5
          have g6 := hG.cell 6
          have g7 := hG.cell 7
          have g8 := hG.cell 8
          have g9 := hG.cell 9
          simp only [List.getElem?_cons_zero, List.getElem?_cons_succ] at g0 g1 g2 g3 g4 g5 g6 g7 g8 g9
          have z0 := hG.frozen 0
          have z1 := hG.frozen 1
          have z2 := hG.frozen 2
          have z3 := hG.frozen 3
          have z4 := hG.frozen 4
          have z5 := hG.frozen 5
          have z6 := hG.frozen 6
          have z7 := hG.frozen 7
          have z8 := hG.frozen 8
          have z9 := hG.frozen 9
          have HGG := Lib.hid hG
          clear hG
          go_wp2_with fail
          refine bodyPost_ret (v := .tuple #[.agg #[.int .i64 0, .int .i64 0, .int .i64 0, .int .i64 0, .int .i64 0, .int .i64 0, .int .i64 0, .int .i64 0, .bool false, .slice none 0 0], .slice none 0 0, .int .i64 6]) (by simp [results, Try.results18, go_sem, g0, g1, g2, g3, g4, g5, g6, g7, g8, g9]) rfl ?_
          exact (HE.out _ _).2 ⟨zeroX, none, 0, 0, [], 6, rfl, OwnX.zero _ _, Fs.nil_ _ _, Nat.le_refl _, by unfold maxLen; omega, Nat.zero_le _, .inr ⟨by omega, rfl, rfl, (by rw [HTC.out, if_neg (by simp), if_neg (by rw [HCC.out]; simp), ← s_readE HPS.out, ← HRE.out, if_neg (by simp)]), HNO.out⟩, xw7.st10 (Nat.le_refl _) (.int .i64 0) (.int .i64 0) (.int .i64 0) (.int .i64 0) (.int .i64 0) (.int .i64 0) (.int .i64 0) (.int .i64 0) (.bool false) (.slice none 0 0)⟩

      · have hre' := bne_t (show ((re : Nat) : Int) ≠ 0 by omega)
        have HR0 := Lib.hid hre0
        have HNO : Hid (∀ y R, ¬ IsLet b y R) := Lib.hid (fun y R h => by
          obtain ⟨_, _, k3, _⟩ := HA.out y R h
          have e1 := s_readE (k3 P HPS.out)
          rw [let_readE h.may h.bx, ← HRE.out] at e1
          exact hre0 e1)
        have HTR : Hid (re = takeCode b) := Lib.hid (by rw [HTC.out, if_neg (by simp), if_neg (by rw [HCC.out]; simp), ← s_readE HPS.out, ← HRE.out, if_pos hre0])
        clear hre0 hrc hX hox hfQ
        have g0 := hG.cell 0
        have g1 := hG.cell 1
        have g2 := hG.cell 2
        have g3 := hG.cell 3
        have g4 := hG.cell 4
        have g5 := hG.cell 5
        have g6 := hG.cell 6
        have g7 := hG.cell 7
        have g8 := hG.cell 8
        have g9 := hG.cell 9
        simp only [List.getElem?_cons_zero, List.getElem?_cons_succ] at g0 g1 g2 g3 g4 g5 g6 g7 g8 g9
        have z0 := hG.frozen 0
        have z1 := hG.frozen 1
        have z2 := hG.frozen 2
        have z3 := hG.frozen 3
        have z4 := hG.frozen 4
        have z5 := hG.frozen 5
        have z6 := hG.frozen 6
        have z7 := hG.frozen 7
        have z8 := hG.frozen 8
        have z9 := hG.frozen 9
        have HGG := Lib.hid hG
        clear hG
        go_wp2_with fail
        refine bodyPost_ret (v := .tuple #[.agg #[.int .i64 0, .int .i64 0, .int .i64 0, .int .i64 0, .int .i64 0, .int .i64 0, .int .i64 0, .int .i64 0, .bool false, .slice none 0 0], .slice none 0 0, .int .i64 re]) (by simp [results, Try.results18, go_sem, g0, g1, g2, g3, g4, g5, g6, g7, g8, g9]) rfl ?_
        exact (HE.out _ _).2 ⟨zeroX, none, 0, 0, [], re, rfl, OwnX.zero _ _, Fs.nil_ _ _, Nat.le_refl _, by unfold maxLen; omega, Nat.zero_le _, .inr ⟨HR0.out, rfl, rfl, HTR.out, HNO.out⟩, xw.st10 (Nat.le_refl _) (.int .i64 0) (.int .i64 0) (.int .i64 0) (.int .i64 0) (.int .i64 0) (.int .i64 0) (.int .i64 0) (.int .i64 0) (.bool false) (.slice none 0 0)⟩

    · have hcd' := bne_t (show ((code : Nat) : Int) ≠ 0 by omega)
      have HC0 := Lib.hid hcd
      have HNO : Hid (∀ y R, ¬ IsLet b y R) := Lib.hid (fun y R h => by
        obtain ⟨_, k2, _, _⟩ := HA.out y R h
        rw [HCC.out] at k2
        exact hcd k2)
      have HTR : Hid (code = takeCode b) := Lib.hid (by rw [HTC.out, if_neg (by simp), HCC.out, if_pos hcd])
      clear hcd
      have g0 := hG.cell 0
      have g1 := hG.cell 1
      have g2 := hG.cell 2
      have g3 := hG.cell 3
      have g4 := hG.cell 4
      have g5 := hG.cell 5
      have g6 := hG.cell 6
      have g7 := hG.cell 7
      have g8 := hG.cell 8
      have g9 := hG.cell 9
      simp only [List.getElem?_cons_zero, List.getElem?_cons_succ] at g0 g1 g2 g3 g4 g5 g6 g7 g8 g9
      have z0 := hG.frozen 0
      have z1 := hG.frozen 1
      have z2 := hG.frozen 2
      have z3 := hG.frozen 3
      have z4 := hG.frozen 4
      have z5 := hG.frozen 5
      have z6 := hG.frozen 6
      have z7 := hG.frozen 7
      have z8 := hG.frozen 8
      have z9 := hG.frozen 9
      have HGG := Lib.hid hG
      clear hG
      go_wp2_with fail
      refine bodyPost_ret (v := .tuple #[.agg #[.int .i64 0, .int .i64 0, .int .i64 0, .int .i64 0, .int .i64 0, .int .i64 0, .int .i64 0, .int .i64 0, .bool false, .slice none 0 0], .slice none 0 0, .int .i64 code]) (by simp [results, Try.results18, go_sem, g0, g1, g2, g3, g4, g5, g6, g7, g8, g9]) rfl ?_
      exact (HE.out _ _).2 ⟨zeroX, none, 0, 0, [], code, rfl, OwnX.zero _ _, Fs.nil_ _ _, Nat.le_refl _, by unfold maxLen; omega, Nat.zero_le _, .inr ⟨HC0.out, rfl, rfl, HTR.out, HNO.out⟩, xw.st10 (Nat.le_refl _) (.int .i64 0) (.int .i64 0) (.int .i64 0) (.int .i64 0) (.int .i64 0) (.int .i64 0) (.int .i64 0) (.int .i64 0) (.bool false) (.slice none 0 0)⟩

  · have her' := bne_t (show ((er : Nat) : Int) ≠ 0 by omega)
    have HC0 := Lib.hid her
    have HNO : Hid (∀ y R, ¬ IsLet b y R) := Lib.hid (fun y R h => by
      obtain ⟨k1, _, _, _⟩ := HA.out y R h
      exact her k1)
    have HTR : Hid (er = takeCode b) := Lib.hid (by rw [HTC.out, if_pos her])
    clear her hs
    have g0 := hG.cell 0
    have g1 := hG.cell 1
    have g2 := hG.cell 2
    have g3 := hG.cell 3
    have g4 := hG.cell 4
    have g5 := hG.cell 5
    have g6 := hG.cell 6
    have g7 := hG.cell 7
    have g8 := hG.cell 8
    have g9 := hG.cell 9
    simp only [List.getElem?_cons_zero, List.getElem?_cons_succ] at g0 g1 g2 g3 g4 g5 g6 g7 g8 g9
    have z0 := hG.frozen 0
    have z1 := hG.frozen 1
    have z2 := hG.frozen 2
    have z3 := hG.frozen 3
    have z4 := hG.frozen 4
    have z5 := hG.frozen 5
    have z6 := hG.frozen 6
    have z7 := hG.frozen 7
    have z8 := hG.frozen 8
    have z9 := hG.frozen 9
    have HGG := Lib.hid hG
    clear hG
    go_wp2_with fail
    refine bodyPost_ret (v := .tuple #[.agg #[.int .i64 0, .int .i64 0, .int .i64 0, .int .i64 0, .int .i64 0, .int .i64 0, .int .i64 0, .int .i64 0, .bool false, .slice none 0 0], .slice none 0 0, .int .i64 er]) (by simp [results, Try.results18, go_sem, g0, g1, g2, g3, g4, g5, g6, g7, g8, g9]) rfl ?_
    exact (HE.out _ _).2 ⟨zeroX, none, 0, 0, [], er, rfl, OwnX.zero _ _, Fs.nil_ _ _, Nat.le_refl _, by unfold maxLen; omega, Nat.zero_le _, .inr ⟨HC0.out, rfl, rfl, HTR.out, HNO.out⟩, xw.st10 (Nat.le_refl _) (.int .i64 0) (.int .i64 0) (.int .i64 0) (.int .i64 0) (.int .i64 0) (.int .i64 0) (.int .i64 0) (.int .i64 0) (.bool false) (.slice none 0 0)⟩

end Go.Proofs.Ytcoaofaofmbfbaa

/- The walk of the law LetterOnce. (Printed by wip/tools/ltonce.py.) -/
namespace Go.Proofs.Ytcoaofaofmbfbaa
open Go.RowKit

set_option maxRecDepth 100000 in
set_option maxHeartbeats 3200000 in
theorem law_LetterOnce (A : Option Addr) (n c : Nat) (l : List UInt8) (w : World) (hb : Bs w A n l) (hnc : n ≤ c) (hcm : c ≤ maxLen) :
    Calls Try.prog 6 #[.slice A n c] w fun e w' => e = .returned (.bool true) ∧ Ext w w' := by
  have hn : n ≤ 9223372036854775807 := by unfold maxLen at hcm; omega
  have hc9 : c ≤ 9223372036854775807 := by unfold maxLen at hcm; omega
  clear hcm
  go_enter Try.func6, Try.ntmps6
  go_wp2_with fail
  refine (law16_shown _).mono ?_
  rintro e w1 ⟨rfl, x1⟩
  replace hb := hb.ext x1
  go_upto_if 12 with fail
  go_cut [0] (fun v wx => ∃ (m : Nat) (b : List UInt8), v = .slice A m c ∧ m ≤ 3000 ∧ m ≤ c ∧ Bs wx A m b ∧ Ext w wx)
  case first =>
    by_cases h : 3000 < n
    · have h3 := hb.upto (hi := 3000) (by omega)
      have hc3 : 3000 ≤ c := by omega
      have H3 := Lib.hid h3
      clear h3
      go_wp2_with fail
      go_meet
      exact ⟨3000, _, rfl, Nat.le_refl _, hc3, H3.out, x1⟩
    · go_wp2_with fail
      go_meet
      exact ⟨n, l, rfl, by omega, hnc, hb, x1⟩
  case rest =>
    obtain ⟨m, b, rfl, hm, hmc, hb, xw⟩ := hcut
    clear x1
    obtain ⟨W1, rfl⟩ : ∃ W1 : World, W1 = wc := ⟨_, rfl⟩
    have hemp := own_empty W1 5 1
    have HB := Lib.hid hb
    go_wp2_with (at_builtin; refine wpList_app bytesT (by omega) _ rfl rfl rfl hemp rfl (Rd.alloc hb _) (bvs_one _) (by unfold maxLen; omega) (by omega) (by simp) ?_; intro v2 w2 hown2 hg2 hat2; simp only [Nat.zero_add, List.nil_append] at hown2; obtain ⟨A2, c2, rfl, hc2⟩ := own_form hown2)
    have x2 := Below.app ((Ext.refl W1).alloc _) hg2 (by simp) hemp (Nat.le_refl _)
    have hb2 : Bs w2 A2 m b := Bs.of_own hown2
    have xw2 := xw.trans x2
    have HTK := Lib.hid (letter_Take A2 m c2 b w2 hb2 (by omega) hc2)
    have x12 := x2
    clear hown2 hg2 hat2 hemp hb x2 hb2
    refine HTK.out.mono ?_
    rintro e w3 ⟨x, AQ, nQ, cQ, ms, code, rfl, hox, hfs, hnq, hcq, hxn, hcase, x3⟩
    have xw3 := xw2.trans x3
    have hb3 := HB.out.ext (Ext.trans x12 x3)
    clear HTK
    have hX := Blk.new w3 26 [.int .i64 x.kind, .int .i64 x.src, .int .i64 x.dst, .int .i64 x.term, .int .i64 x.a, .int .i64 x.b, .int .i64 x.c, .int .i64 x.bin, .bool x.ok, .slice x.A x.n x.cp]
    have x4 : Ext w3 (w3.alloc (.cells #[.int .i64 x.kind, .int .i64 x.src, .int .i64 x.dst, .int .i64 x.term, .int .i64 x.a, .int .i64 x.b, .int .i64 x.c, .int .i64 x.bin, .bool x.ok, .slice x.A x.n x.cp] 26)) := (Ext.refl w3).alloc _
    have xw4 := xw3.trans x4
    have hb4 := hb3.ext x4
    replace hox := hox.ext x4
    replace hfs := hfs.ext x4
    clear hb3 xw3 x3 x12
    unfold LV.val
    go_upto_region 5 with fail
    generalize w3.alloc (.cells #[.int .i64 x.kind, .int .i64 x.src, .int .i64 x.dst, .int .i64 x.term, .int .i64 x.a, .int .i64 x.b, .int .i64 x.c, .int .i64 x.bin, .bool x.ok, .slice x.A x.n x.cp] 26) = W4 at *
    rcases hcase with ⟨rfl, hil⟩ | ⟨hcd, hz, hms, _, _⟩
    · have HPUT := Lib.hid (letter_Put x AQ nQ cQ ms W4 hox.ok (by omega) hfs (by have := hfs.len; have := hil.many; omega))
      rw [hil.lput] at HPUT
      have HMAY := Lib.hid (fun (W : World) (h : Ext W4 W) => letter_May x W (hox.ok.ext h) (by omega))
      rw [mayR_t hil.may] at HMAY
      unfold LV.val at HPUT HMAY
      dsimp only at HPUT
      clear hfs hox hil
      have d0 := hX.cell 0
      have d1 := hX.cell 1
      have d2 := hX.cell 2
      have d3 := hX.cell 3
      have d4 := hX.cell 4
      have d5 := hX.cell 5
      have d6 := hX.cell 6
      have d7 := hX.cell 7
      have d8 := hX.cell 8
      have d9 := hX.cell 9
      simp only [List.getElem?_cons_zero, List.getElem?_cons_succ] at d0 d1 d2 d3 d4 d5 d6 d7 d8 d9
      go_wp2_with fail
      refine HPUT.out.mono ?_
      rintro e w5 ⟨v5, rfl, hown5, x5⟩
      obtain ⟨A5, c5, rfl, _⟩ := own_form hown5
      have s1 := str_at (show Bs w5 A5 b.length b from Bs.of_own hown5) c5
      have s2 := str_at (hb4.ext x5) c
      replace hX := hX.ext x5
      have HM2 := Lib.hid (HMAY.out w5 x5)
      have xw5 := xw4.trans x5
      generalize bstr b = S at *
      clear HPUT HMAY d0 d1 d2 d3 d4 d5 d6 d7 d8 d9 hown5 hb4 x5
      have d0 := hX.cell 0
      have d1 := hX.cell 1
      have d2 := hX.cell 2
      have d3 := hX.cell 3
      have d4 := hX.cell 4
      have d5 := hX.cell 5
      have d6 := hX.cell 6
      have d7 := hX.cell 7
      have d8 := hX.cell 8
      have d9 := hX.cell 9
      simp only [List.getElem?_cons_zero, List.getElem?_cons_succ] at d0 d1 d2 d3 d4 d5 d6 d7 d8 d9
      go_wp2_with fail
      refine HM2.out.mono ?_
      rintro e w6 ⟨rfl, x6⟩
      go_wp2_with fail
      go_ret
      exact ⟨rfl, xw5.trans x6⟩
    · subst hz hms
      have h0 : nQ = 0 := hfs.len.symm
      subst h0
      have hcd' := bne_t (show ((code : Nat) : Int) ≠ 0 by omega)
      have d0 := hX.cell 0
      unfold zeroX at d0
      simp only [List.getElem?_cons_zero] at d0
      clear hcd hfs hox
      go_wp2_with fail
      go_ret
      exact ⟨rfl, xw4⟩
end Go.Proofs.Ytcoaofaofmbfbaa
