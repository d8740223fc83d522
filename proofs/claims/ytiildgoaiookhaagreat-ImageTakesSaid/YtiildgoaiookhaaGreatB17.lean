/- Words and walks that the last text of this claim stands on: ImD, ImE, Im7. No condition. -/
import Derived.Test.YtiildgoaiookhaaGreatB16
import Derived.Test.YtiildgoaiookhaaGreatB12
/- What the fields of a catalogue say: reading, plain. -/
namespace Go.Proofs.YtiildgoaiookhaaGreat
open Go.RowKit

theorem s_fold {α : Type} (g : α → FV → α) (hg : ∀ X f f', FV.s f = FV.s f' → g X f = g X f') : ∀ (l m : List FV) (X : α), l.map FV.s = m.map FV.s → l.foldl g X = m.foldl g X
  | [], [], _, _ => rfl
  | [], b :: r, _, h => by simp at h
  | a :: l, [], _, h => by simp at h
  | a :: l, b :: r, X, h => by
    simp only [List.map_cons, List.cons.injEq] at h
    rw [List.foldl_cons, List.foldl_cons, hg X a b h.1]
    exact s_fold g hg l r _ h.2
theorem s_parts {f f' : FV} (h : FV.s f = FV.s f') : f.num = f'.num ∧ f.wire = f'.wire ∧ f.n = f'.n ∧ f.len = f'.len ∧ f.b = f'.b := by
  simp only [FV.s, Prod.mk.injEq] at h
  exact h
theorem fold_num {α : Type} (g : α → FV → α) (X : α) (n : Int) (k : Nat) (R : List FV) : ((if n = 0 then [] else [tfv k 0 n.toNat []]) ++ R).foldl g X = R.foldl g (if n = 0 then X else g X (tfv k 0 n.toNat [])) := by
  by_cases h : n = 0
  · rw [if_pos h, if_pos h]; rfl
  · rw [if_neg h, if_neg h]; rfl
theorem fold_take {α : Type} (g : α → FV → α) (X : α) (l : List FV) (j : Nat) (h : j < l.length) : (l.take (j + 1)).foldl g X = g ((l.take j).foldl g X) l[j] := by
  rw [List.take_succ_eq_append_getElem h, List.foldl_append]; rfl

/-! a row of chunks -/
/-- bytes as numbers -/
def natsOf (b : List UInt8) : List Int := b.map fun x => (x.toNat : Int)
/-- what bytes say of chunks: none, if they are no row -/
def unch (b : List UInt8) : List Int := if rowChB (natsOf b) = true then natsOf b else []
theorem vput_64 {n : Int} (h0 : 0 ≤ n) (h : n ≤ 64) : vput n.toNat = [UInt8.ofNat n.toNat] := vput_small (by omega)
theorem chput_small : ∀ {l : List Int}, (∀ x ∈ l, 0 ≤ x ∧ x ≤ 64) → natsOf (chput l) = l
  | [], _ => rfl
  | a :: r, h => by
    have ha := h a (by simp)
    have ih := chput_small fun x hx => h x (List.mem_cons_of_mem _ hx)
    unfold chput natsOf at ih ⊢
    rw [List.map_cons, List.flatten_cons, vput_64 ha.1 ha.2, List.map_append, ih]
    simp only [List.map_cons, List.map_nil, List.singleton_append, List.cons.injEq, and_true]
    rw [UInt8.toNat_ofNat']
    omega
theorem rowCh_in {l : List Int} (h : rowChB l = true) : ∀ x ∈ l, 0 ≤ x ∧ x ≤ 64 := by
  unfold rowChB at h
  simp only [Bool.and_eq_true] at h
  intro x hx
  have := upB_in h.2 x hx
  omega
theorem unch_put {l : List Int} (h : rowChB l = true) : unch (chput l) = l := by
  unfold unch
  rw [chput_small (rowCh_in h), if_pos h]

/-! records -/
def rcode (kind v : Int) (b : List UInt8) : Nat := if (ttrow b).2 ≠ 0 then (ttrow b).2 else checkN (specL kind v) (ttrow b).1
/-- why a field of a catalogue is none -/
def recCode (v : Int) (f : FV) : Nat := if f.num = 4 then rcode 4 v f.b else if f.num = 5 then rcode 3 v f.b else if f.num = 6 then rcode 2 v f.b else 0
/-- the first error of fields -/
def kreadE (v : Int) : List FV → Nat
  | [] => 0
  | f :: r => if recCode v f ≠ 0 then recCode v f else kreadE v r
theorem kreadE_cons (v : Int) (f : FV) (r : List FV) : kreadE v (f :: r) = if recCode v f ≠ 0 then recCode v f else kreadE v r := rfl
theorem kreadE_app (v : Int) (l m : List FV) : kreadE v (l ++ m) = if kreadE v l = 0 then kreadE v m else kreadE v l := by
  induction l with
  | nil => rfl
  | cons a r ih =>
    rw [List.cons_append, kreadE_cons, kreadE_cons]
    by_cases h : recCode v a ≠ 0
    · rw [if_pos h, if_pos h, if_neg h]
    · rw [if_neg h, if_neg h, ih]
theorem kreadE_ok {v : Int} {l : List FV} (h : ∀ f ∈ l, recCode v f = 0) : kreadE v l = 0 := by
  induction l with
  | nil => rfl
  | cons a r ih =>
    rw [kreadE_cons, if_neg (by simp [h a (by simp)])]
    exact ih fun f hf => h f (List.mem_cons_of_mem _ hf)
theorem kreadE_snoc (v : Int) (l : List FV) (j : Nat) (h : j < l.length) (h0 : kreadE v (l.take j) = 0) : kreadE v (l.take (j + 1)) = recCode v l[j] := by
  rw [List.take_succ_eq_append_getElem h, kreadE_app, if_pos h0, kreadE_cons]
  by_cases h : recCode v l[j] ≠ 0
  · rw [if_pos h]
  · rw [if_neg h]
    simp only [ne_eq, Decidable.not_not] at h
    rw [h]; rfl
theorem kreadE_bad (v : Int) (l : List FV) (j : Nat) (h : j < l.length) (h0 : kreadE v (l.take j) = 0) (h2 : recCode v l[j] ≠ 0) : kreadE v l = recCode v l[j] := by
  have e : kreadE v l = kreadE v (l.take j ++ l.drop j) := by rw [List.take_append_drop]
  rw [e, kreadE_app, if_pos h0, List.drop_eq_getElem_cons h, kreadE_cons, if_pos h2]
theorem s_recCode {v : Int} {f f' : FV} (h : FV.s f = FV.s f') : recCode v f = recCode v f' := by
  obtain ⟨h1, _, _, _, h5⟩ := s_parts h
  unfold recCode
  rw [h1, h5]
theorem s_kreadE {v : Int} {l m : List FV} (h : l.map FV.s = m.map FV.s) : kreadE v l = kreadE v m := by
  induction l generalizing m with
  | nil => cases m with | nil => rfl | cons b r => simp at h
  | cons a l ih =>
    cases m with
    | nil => simp at h
    | cons b r =>
      simp only [List.map_cons, List.cons.injEq] at h
      rw [kreadE_cons, kreadE_cons, s_recCode h.1, ih h.2]
/-- fields that are of no record may be left out -/
theorem kreadE_filter (v : Int) (k : Nat) (hk : 6 ≤ k) (l : List FV) : kreadE v (l.filter (loB k)) = kreadE v l := by
  induction l with
  | nil => rfl
  | cons a r ih =>
    rw [List.filter_cons]
    by_cases h : loB k a = true
    · rw [if_pos h, kreadE_cons, kreadE_cons, ih]
    · rw [if_neg h, kreadE_cons, ih]
      have hn : ¬ a.num ≤ (k : Int) := by simpa [loB] using h
      have : recCode v a = 0 := by
        unfold recCode
        rw [if_neg (by omega), if_neg (by omega), if_neg (by omega)]
      rw [if_neg (by simp [this])]

def sesStep (X : CV) (f : FV) : CV :=
  if f.num = 1 then { X with client := IntKind.i64.wrap f.n } else if f.num = 2 then { X with seq := IntKind.i64.wrap f.n } else if f.num = 3 then { X with code := IntKind.i64.wrap f.n } else if f.num = 4 then { X with n := IntKind.i64.wrap f.n } else X
def sesOf (l : List FV) : CV := l.foldl sesStep ⟨0, 0, 0, 0⟩
def opnStep (X : OV) (f : FV) : OV :=
  if f.num = 1 then { X with set := IntKind.i64.wrap f.n } else if f.num = 2 then { X with client := IntKind.i64.wrap f.n } else X
def opnOf (l : List FV) : OV := l.foldl opnStep ⟨0, 0⟩
/-- what a snapshot says -/
structure NQ where
  id : Int
  set : Int
  ch : List Int
  held : Bool
  tag : ByteArray
def NQ.q (x : NQ) : Int × Int × List Int × Bool × ByteArray := (x.id, x.set, x.ch, x.held, x.tag)
def NV.nq (x : NV) : NQ := ⟨x.id, x.set, x.ch, x.held, x.tag⟩
theorem NV.nq_q (x : NV) : x.nq.q = x.q := rfl
def snpStep (X : NQ) (f : FV) : NQ :=
  if f.num = 1 then { X with id := IntKind.i64.wrap f.n } else if f.num = 2 then { X with set := IntKind.i64.wrap f.n } else if f.num = 3 then { X with ch := unch f.b } else if f.num = 4 then { X with held := decide (f.n ≠ 0) } else if f.num = 5 then { X with tag := ⟨f.b.toArray⟩ } else X
def NQ.zero : NQ := ⟨0, 0, [], false, ⟨#[]⟩⟩
def snpOf (l : List FV) : NQ := l.foldl snpStep NQ.zero
theorem s_ses (X : CV) (f f' : FV) (h : FV.s f = FV.s f') : sesStep X f = sesStep X f' := by
  obtain ⟨h1, h2, h3, h4, h5⟩ := s_parts h
  unfold sesStep; rw [h1, h3]
theorem s_opn (X : OV) (f f' : FV) (h : FV.s f = FV.s f') : opnStep X f = opnStep X f' := by
  obtain ⟨h1, h2, h3, h4, h5⟩ := s_parts h
  unfold opnStep; rw [h1, h3]
theorem s_snp (X : NQ) (f f' : FV) (h : FV.s f = FV.s f') : snpStep X f = snpStep X f' := by
  obtain ⟨h1, h2, h3, h4, h5⟩ := s_parts h
  unfold snpStep; rw [h1, h3, h5]
theorem wrapn {n : Int} (h : 0 ≤ n ∧ n ≤ 4611686018427387904) : IntKind.i64.wrap ((n.toNat : Nat) : Int) = n := wrap_nat h.1 h.2
theorem sesOf_F {x : CV} (h : ∀ n ∈ [x.client, x.seq, x.code, x.n], 0 ≤ n ∧ n ≤ 4611686018427387904) : sesOf (sesF x) = x := by
  have w1 := wrapn (h x.client (by simp))
  have w2 := wrapn (h x.seq (by simp))
  have w3 := wrapn (h x.code (by simp))
  have w4 := wrapn (h x.n (by simp))
  unfold sesOf sesF
  simp only [numF_cons, numF_nil]
  rw [fold_num, fold_num, fold_num, fold_num, List.foldl_nil]
  have z : ∀ (X : CV) (i : Nat) (m : Int), IntKind.i64.wrap ((m.toNat : Nat) : Int) = m → (if m = 0 then X else sesStep X (tfv i 0 m.toNat [])) = if m = 0 then X else (if (i : Int) = 1 then { X with client := m } else if (i : Int) = 2 then { X with seq := m } else if (i : Int) = 3 then { X with code := m } else if (i : Int) = 4 then { X with n := m } else X) := by
    intro X i m hm
    by_cases h0 : m = 0
    · rw [if_pos h0, if_pos h0]
    · rw [if_neg h0, if_neg h0]; unfold sesStep; simp only [tfv, hm]
  rw [z _ _ _ w1, z _ _ _ w2, z _ _ _ w3, z _ _ _ w4]
  obtain ⟨a, b, c, d⟩ := x
  dsimp only
  by_cases ha : a = 0 <;> by_cases hb : b = 0 <;> by_cases hc : c = 0 <;> by_cases hd : d = 0 <;> simp [ha, hb, hc, hd]
theorem opnOf_F {x : OV} (h : ∀ n ∈ [x.set, x.client], 0 ≤ n ∧ n ≤ 4611686018427387904) : opnOf (opnF x) = x := by
  have w1 := wrapn (h x.set (by simp))
  have w2 := wrapn (h x.client (by simp))
  unfold opnOf opnF
  simp only [numF_cons, numF_nil]
  rw [fold_num, fold_num, List.foldl_nil]
  have z : ∀ (X : OV) (i : Nat) (m : Int), IntKind.i64.wrap ((m.toNat : Nat) : Int) = m → (if m = 0 then X else opnStep X (tfv i 0 m.toNat [])) = if m = 0 then X else (if (i : Int) = 1 then { X with set := m } else if (i : Int) = 2 then { X with client := m } else X) := by
    intro X i m hm
    by_cases h0 : m = 0
    · rw [if_pos h0, if_pos h0]
    · rw [if_neg h0, if_neg h0]; unfold opnStep; simp only [tfv, hm]
  rw [z _ _ _ w1, z _ _ _ w2]
  obtain ⟨a, b⟩ := x
  dsimp only
  by_cases ha : a = 0 <;> by_cases hb : b = 0 <;> simp [ha, hb]
/-- what a snapshot's own fields say, at the version at which it was laid down -/
theorem snpOf_H {v : Int} {s : KV} (h : KMay v s) {x : NV} (hx : x ∈ s.sns) : snpOf (snpH v x) = x.nq := by
  have hn := snp_nums h hx
  obtain ⟨c1, c2, c3, c4, c5, c6⟩ := h.sns x hx
  have w1 := wrapn (hn x.id (by simp))
  have w2 := wrapn (hn x.set (by simp))
  have hv1 := h.v1
  have hv3 := h.v3
  unfold snpOf snpH
  simp only [numF_cons, numF_nil, List.append_assoc]
  rw [fold_num, fold_num, List.nil_append, if_neg (by omega), if_neg (by omega)]
  have e1 : snpStep (snpStep NQ.zero (tfv 1 0 x.id.toNat [])) (tfv (1 + 1) 0 x.set.toNat []) = ⟨x.id, x.set, [], false, ⟨#[]⟩⟩ := by
    simp [snpStep, tfv, NQ.zero, w1, w2, -Int.ofNat_toNat]
  rw [e1, List.foldl_cons]
  have e2 : snpStep ⟨x.id, x.set, [], false, ⟨#[]⟩⟩ (tfv 3 2 0 (chput x.ch)) = ⟨x.id, x.set, x.ch, false, ⟨#[]⟩⟩ := by
    simp [snpStep, tfv, unch_put c3]
  rw [e2, List.foldl_append]
  have e3 : (if 2 ≤ v ∧ x.held = true then [tfv 4 0 1 []] else []).foldl snpStep ⟨x.id, x.set, x.ch, false, ⟨#[]⟩⟩ = ⟨x.id, x.set, x.ch, x.held, ⟨#[]⟩⟩ := by
    by_cases hh : x.held = true
    · rw [if_pos ⟨c4 hh, hh⟩, hh]; simp [snpStep, tfv]
    · rw [if_neg (fun k => hh k.2)]
      have : x.held = false := by simpa using hh
      rw [this]; rfl
  rw [e3]
  by_cases ht : x.tag = ⟨#[]⟩
  · rw [if_neg (fun k => k.2 ht), List.foldl_nil, ← ht]; rfl
  · have h3 : 3 ≤ v := by
      by_cases h3 : v < 3
      · exact absurd (c6 h3) ht
      · omega
    rw [if_pos ⟨h3, ht⟩]
    simp [snpStep, tfv, NV.nq]

/-! a catalogue -/
def kstep (v : Int) (X : RK) (f : FV) : RK :=
  if f.num = 4 then { X with ses := X.ses ++ [sesOf (ttrow f.b).1] }
  else if f.num = 5 then { X with ops := X.ops ++ [opnOf (ttrow f.b).1] }
  else if f.num = 6 then { X with sns := X.sns ++ [(snpOf ((ttrow f.b).1.filter (loB (topN v)))).q], more := X.more ++ [((ttrow f.b).1.filter fun f => !loB (topN v) f).map FV.s] }
  else if f.num = 1 then { X with ver := IntKind.i64.wrap f.n }
  else if f.num = 2 then { X with next := IntKind.i64.wrap f.n }
  else if f.num = 3 then { X with keep := IntKind.i64.wrap f.n }
  else if f.num = 7 then { X with quota := IntKind.i64.wrap f.n }
  else X
def RK.zero : RK := ⟨0, 0, 0, 0, [], [], [], []⟩
/-- what fields say of a catalogue -/
def kread (v : Int) (l : List FV) : RK := l.foldl (kstep v) RK.zero
theorem s_kstep (v : Int) (X : RK) (f f' : FV) (h : FV.s f = FV.s f') : kstep v X f = kstep v X f' := by
  obtain ⟨h1, h2, h3, h4, h5⟩ := s_parts h
  unfold kstep; rw [h1, h3, h5]
theorem s_kread {v : Int} {l m : List FV} (h : l.map FV.s = m.map FV.s) : kread v l = kread v m := s_fold _ (s_kstep v) l m _ h
theorem ses_rec {v : Int} {s : KV} (h : KMay v s) {x : CV} (hx : x ∈ s.ses) : rcode 4 v (rput (sesF x)) = 0 ∧ sesOf (ttrow (rput (sesF x))).1 = x := by
  obtain ⟨r1, r2⟩ := row_of (ses_may h hx).1 (numF_k _ 1 (ses_nums h hx))
  refine ⟨?_, ?_⟩
  · unfold rcode
    rw [if_neg (by simp [r1]), s_check r2]; exact ses_check h hx
  · unfold sesOf
    rw [s_fold _ s_ses _ _ _ r2]; exact sesOf_F (ses_nums h hx)
theorem opn_rec {v : Int} {s : KV} (h : KMay v s) {x : OV} (hx : x ∈ s.ops) : rcode 3 v (rput (opnF x)) = 0 ∧ opnOf (ttrow (rput (opnF x))).1 = x := by
  obtain ⟨r1, r2⟩ := row_of (opn_may h hx).1 (numF_k _ 1 (opn_nums h hx))
  refine ⟨?_, ?_⟩
  · unfold rcode
    rw [if_neg (by simp [r1]), s_check r2]; exact opn_check h hx
  · unfold opnOf
    rw [s_fold _ s_opn _ _ _ r2]; exact opnOf_F (opn_nums h hx)
theorem snp_rec {v : Int} {s : KV} (h : KMay v s) {x : NV} (hx : x ∈ s.sns) {m : List FV} (hm : lowK (topN v) m = false) (hr : fmay (snpF v x m) = 0) (hk : ∀ f ∈ m, U64 f.n ∧ f.len = f.b.length) :
    rcode 2 v (rput (snpF v x m)) = 0 ∧ (snpOf ((ttrow (rput (snpF v x m))).1.filter (loB (topN v)))).q = x.q ∧ ((ttrow (rput (snpF v x m))).1.filter fun f => !loB (topN v) f).map FV.s = m.map FV.s := by
  have hkk : ∀ f ∈ snpF v x m, U64 f.n ∧ f.len = f.b.length := by
    intro f hf
    rcases List.mem_append.1 hf with hf | hf
    · exact snpH_k h v hx f hf
    · exact hk f hf
  obtain ⟨r1, r2⟩ := row_of hr hkk
  have ht := top_ver h.v1 h.v3
  obtain ⟨f1, f2⟩ := split_filter (l := snpH v x) (m := m) (k := topN v) (fun f hf => (snpH_num (v := v) (ver := v) (x := x) (by omega) rfl f hf).2) hm
  obtain ⟨g1, g2⟩ := s_filter r2 (topN v)
  have e : snpF v x m = snpH v x ++ m := rfl
  rw [e, f1] at g1
  rw [e, f2] at g2
  refine ⟨?_, ?_, by rw [e]; exact g2⟩
  · unfold rcode
    rw [if_neg (by simp [r1]), s_check r2]; exact snp_check h hx hm hr
  · rw [e]
    unfold snpOf
    rw [s_fold _ s_snp _ _ _ g1]
    have := snpOf_H h hx
    unfold snpOf at this
    rw [this]; rfl

theorem kread_ses {v : Int} {s : KV} (h : KMay v s) : ∀ (l : List CV) (X : RK), (∀ x ∈ l, x ∈ s.ses) → (recF 4 (l.map sesF)).foldl (kstep v) X = { X with ses := X.ses ++ l }
  | [], X, _ => by simp [recF]
  | x :: r, X, hl => by
    have ih := kread_ses h r { X with ses := X.ses ++ [x] } fun y hy => hl y (List.mem_cons_of_mem _ hy)
    have e : recF 4 ((x :: r).map sesF) = tfv 4 2 0 (rput (sesF x)) :: recF 4 (r.map sesF) := rfl
    rw [e, List.foldl_cons]
    have e2 : kstep v X (tfv 4 2 0 (rput (sesF x))) = { X with ses := X.ses ++ [x] } := by
      unfold kstep
      rw [if_pos (by rfl)]
      show ({ X with ses := X.ses ++ [sesOf (ttrow (rput (sesF x))).1] } : RK) = _
      rw [(ses_rec h (hl x (by simp))).2]
    rw [e2, ih]; simp
theorem kread_ops {v : Int} {s : KV} (h : KMay v s) : ∀ (l : List OV) (X : RK), (∀ x ∈ l, x ∈ s.ops) → (recF 5 (l.map opnF)).foldl (kstep v) X = { X with ops := X.ops ++ l }
  | [], X, _ => by simp [recF]
  | x :: r, X, hl => by
    have ih := kread_ops h r { X with ops := X.ops ++ [x] } fun y hy => hl y (List.mem_cons_of_mem _ hy)
    have e : recF 5 ((x :: r).map opnF) = tfv 5 2 0 (rput (opnF x)) :: recF 5 (r.map opnF) := rfl
    rw [e, List.foldl_cons]
    have e2 : kstep v X (tfv 5 2 0 (rput (opnF x))) = { X with ops := X.ops ++ [x] } := by
      unfold kstep
      rw [if_neg (by simp [tfv]), if_pos (by rfl)]
      show ({ X with ops := X.ops ++ [opnOf (ttrow (rput (opnF x))).1] } : RK) = _
      rw [(opn_rec h (hl x (by simp))).2]
    rw [e2, ih]; simp
theorem kread_sns {v : Int} {s : KV} (h : KMay v s) (R : NV → List FV → List FV) (hR : ∀ x m, R x m = snpF v x m) : ∀ (l : List (NV × List FV)) (X : RK), (∀ p ∈ l, p.1 ∈ s.sns ∧ lowK (topN v) p.2 = false ∧ fmay (snpF v p.1 p.2) = 0 ∧ ∀ f ∈ p.2, U64 f.n ∧ f.len = f.b.length) →
    (recF 6 (l.map fun p => R p.1 p.2)).foldl (kstep v) X = { X with sns := X.sns ++ l.map fun p => p.1.q, more := X.more ++ l.map fun p => p.2.map FV.s }
  | [], X, _ => by simp [recF]
  | (x, m) :: r, X, hl => by
    have ih := kread_sns h R hR r { X with sns := X.sns ++ [x.q], more := X.more ++ [m.map FV.s] } fun y hy => hl y (List.mem_cons_of_mem _ hy)
    have e : recF 6 (((x, m) :: r).map fun p => R p.1 p.2) = tfv 6 2 0 (rput (R x m)) :: recF 6 (r.map fun p => R p.1 p.2) := rfl
    rw [e, List.foldl_cons, hR]
    obtain ⟨p1, p2, p3, p4⟩ := hl (x, m) (by simp)
    obtain ⟨_, q2, q3⟩ := snp_rec h p1 p2 p3 p4
    have e2 : kstep v X (tfv 6 2 0 (rput (snpF v x m))) = { X with sns := X.sns ++ [x.q], more := X.more ++ [m.map FV.s] } := by
      unfold kstep
      rw [if_neg (by simp [tfv]), if_neg (by simp [tfv]), if_pos (by rfl)]
      show ({ X with sns := X.sns ++ [(snpOf ((ttrow (rput (snpF v x m))).1.filter (loB (topN v)))).q], more := X.more ++ [((ttrow (rput (snpF v x m))).1.filter fun f => !loB (topN v) f).map FV.s] } : RK) = _
      rw [q2, q3]
    rw [e2, ih]; simp
/-- snapshots, each with its list -/
def pairM (sns : List NV) (more : List (List FV)) : List (NV × List FV) := sns.mapIdx fun i x => (x, more[i]?.getD [])
theorem pairM_rows (v : Int) (sns : List NV) (more : List (List FV)) : (pairM sns more).map (fun p => snpF v p.1 p.2) = snpsF v sns more := by
  unfold pairM snpsF
  exact List.ext_getElem (by simp) fun i h1 h2 => by simp
theorem pairM_q (sns : List NV) (more : List (List FV)) : (pairM sns more).map (fun p => p.1.q) = sns.map NV.q := by
  unfold pairM
  exact List.ext_getElem (by simp) fun i h1 h2 => by simp
theorem pairM_more (sns : List NV) (more : List (List FV)) : (pairM sns more).map (fun p => p.2.map FV.s) = padM sns.length more := by
  unfold pairM padM
  exact List.ext_getElem (by simp) fun i h1 h2 => by simp
theorem pairM_mem {sns : List NV} {more : List (List FV)} {p : NV × List FV} (h : p ∈ pairM sns more) : ∃ i, ∃ hi : i < sns.length, p = (sns[i], more[i]?.getD []) := by
  unfold pairM at h
  obtain ⟨i, hi, e⟩ := List.mem_iff_getElem.1 h
  simp only [List.length_mapIdx] at hi
  exact ⟨i, hi, by rw [← e]; simp⟩
theorem IsKat.pair {v : Int} {b : List UInt8} {s : KV} {more : List (List FV)} {top : List FV} (h : IsKat v b s more top) : ∀ p ∈ pairM s.sns more, p.1 ∈ s.sns ∧ lowK (topN v) p.2 = false ∧ fmay (snpF v p.1 p.2) = 0 ∧ ∀ f ∈ p.2, U64 f.n ∧ f.len = f.b.length := by
  obtain ⟨_, _, b3⟩ := bad_parts h.bad
  intro p hp
  obtain ⟨i, hi, rfl⟩ := pairM_mem hp
  refine ⟨List.getElem_mem _, bad_at b3 i, ?_, km_at h.km i⟩
  refine firstE_zero.1 h.rows _ ?_
  unfold snpsF
  exact List.mem_iff_getElem.2 ⟨i, by simpa using hi, by simp⟩
theorem quota_fold (v : Int) {s : KV} (h : KMay v s) (X : RK) (hX : X.quota = 0) : (if 3 ≤ v ∧ s.quota ≠ 0 then [tfv 7 0 s.quota.toNat []] else []).foldl (kstep v) X = { X with quota := s.quota } := by
  have hq := h.quota
  by_cases h0 : s.quota = 0
  · rw [if_neg (fun k => k.2 h0), h0, ← hX]; rfl
  · have h3 : 3 ≤ v := by
      by_cases h3 : v < 3
      · exact absurd (h.q3 h3) h0
      · omega
    rw [if_pos ⟨h3, h0⟩]
    have w1 := wrapn (n := s.quota) ⟨hq.1, by omega⟩
    simp [kstep, tfv, w1, -Int.ofNat_toNat]
/-- what a catalogue's fields say is the catalogue -/
theorem IsKat.read {v : Int} {b : List UInt8} {s : KV} {more : List (List FV)} {top : List FV} (h : IsKat v b s more top) : kreadE v (stH v s more) = 0 ∧ kread v (stH v s more) = s.rk more := by
  have hk := kmay_parts h.may
  have hn := st_nums hk
  have hp := h.pair
  have h1 := hk.ver
  have h2 := hk.next
  constructor
  · refine kreadE_ok fun f hf => ?_
    unfold stH at hf
    rcases List.mem_append.1 hf with hf | hf
    · have := numF_nums f hf
      simp only [List.length_cons, List.length_nil] at this
      unfold recCode
      rw [if_neg (by omega), if_neg (by omega), if_neg (by omega)]
    rcases List.mem_append.1 hf with hf | hf
    · obtain ⟨r, hr, rfl⟩ := recF_mem hf
      obtain ⟨x, hx, rfl⟩ := List.mem_map.1 hr
      exact (ses_rec hk hx).1
    rcases List.mem_append.1 hf with hf | hf
    · obtain ⟨r, hr, rfl⟩ := recF_mem hf
      obtain ⟨x, hx, rfl⟩ := List.mem_map.1 hr
      exact (opn_rec hk hx).1
    rcases List.mem_append.1 hf with hf | hf
    · rw [← pairM_rows] at hf
      obtain ⟨r, hr, rfl⟩ := recF_mem hf
      obtain ⟨p, hpm, rfl⟩ := List.mem_map.1 hr
      obtain ⟨p1, p2, p3, p4⟩ := hp p hpm
      exact (snp_rec hk p1 p2 p3 p4).1
    · split at hf
      · simp only [List.mem_singleton] at hf; subst hf; rfl
      · simp at hf
  · have w1 := wrapn (hn s.ver (by simp))
    have w2 := wrapn (hn s.next (by simp))
    have w3 := wrapn (hn s.keep (by simp))
    unfold kread stH
    rw [List.foldl_append, List.foldl_append, List.foldl_append, List.foldl_append]
    simp only [numF_cons, numF_nil]
    rw [fold_num, fold_num, fold_num, List.foldl_nil]
    rw [if_neg (show ¬ s.ver = 0 by omega), if_neg (show ¬ s.next = 0 by omega)]
    have e1 : kstep v (kstep v RK.zero (tfv 1 0 s.ver.toNat [])) (tfv (1 + 1) 0 s.next.toNat []) = ⟨s.ver, s.next, 0, 0, [], [], [], []⟩ := by
      simp [kstep, tfv, RK.zero, w1, w2, -Int.ofNat_toNat]
    rw [e1]
    have e2 : (if s.keep = 0 then (⟨s.ver, s.next, 0, 0, [], [], [], []⟩ : RK) else kstep v ⟨s.ver, s.next, 0, 0, [], [], [], []⟩ (tfv (1 + 1 + 1) 0 s.keep.toNat [])) = ⟨s.ver, s.next, s.keep, 0, [], [], [], []⟩ := by
      by_cases h0 : s.keep = 0
      · rw [if_pos h0, h0]
      · rw [if_neg h0]; simp [kstep, tfv, w3, -Int.ofNat_toNat]
    rw [e2, kread_ses hk s.ses _ (fun _ hx => hx), kread_ops hk s.ops _ (fun _ hx => hx), ← pairM_rows, kread_sns hk (fun x m => snpF v x m) (fun _ _ => rfl) _ _ hp, quota_fold v hk _ rfl, pairM_q, pairM_more]
    simp [KV.rk]
/-- whatever is a catalogue is read as it -/
theorem IsKat.all {v : Int} {b : List UInt8} {s : KV} {more : List (List FV)} {top : List FV} (h : IsKat v b s more top) : (ttrow b).2 = 0 ∧ checkN (specL 5 v) (ttrow b).1 = 0 ∧ kreadE v (ttrow b).1 = 0 ∧
    (∀ P : List FV, P.map FV.s = ((ttrow b).1.filter (loB (topS v))).map FV.s → kread v P = s.rk more) ∧
    (∀ Q : List FV, Q.map FV.s = ((ttrow b).1.filter (fun f => !loB (topS v) f)).map FV.s → Q.map FV.s = top.map FV.s) := by
  have hk := kmay_parts h.may
  obtain ⟨h1, h2⟩ := h.row_
  obtain ⟨b1, b2, b3⟩ := bad_parts h.bad
  have ht := top_ver hk.v1 hk.v3
  obtain ⟨f1, f2⟩ := split_filter (l := stH v s more) (m := top) (k := topS v) (fun f hf => (stH_num hk.v1 hk.v3 f hf).2) b1
  obtain ⟨g1, g2⟩ := s_filter h2 (topS v)
  rw [stF_eq, f1] at g1
  rw [stF_eq, f2] at g2
  have hr := h.read
  refine ⟨h1, by rw [s_check h2]; exact st_check h, ?_, fun P hP => ?_, fun Q hQ => hQ.trans g2⟩
  · rw [s_kreadE h2, ← kreadE_filter v (topS v) (by omega), stF_eq, f1]; exact hr.1
  · rw [s_kread (hP.trans g1)]; exact hr.2
end Go.Proofs.YtiildgoaiookhaaGreat

/- Catalogues that say the same, and a catalogue as an older version sees it: plain. -/
namespace Go.Proofs.YtiildgoaiookhaaGreat
open Go.RowKit

theorem if_same {α : Sort _} {p q : Prop} [Decidable p] [Decidable q] {a b a' b' : α} (h : p ↔ q) (ha : a = a') (hb : b = b') : (if p then a else b) = if q then a' else b' := by
  subst ha hb
  by_cases hp : p
  · rw [if_pos hp, if_pos (h.1 hp)]
  · rw [if_neg hp, if_neg (fun k => hp (h.2 k))]
theorem q_parts {x y : NV} (h : x.q = y.q) : x.id = y.id ∧ x.set = y.set ∧ x.ch = y.ch ∧ x.held = y.held ∧ x.tag = y.tag := by
  simp only [NV.q, Prod.mk.injEq] at h
  exact h
theorem snpH_q {v : Int} {x y : NV} (h : x.q = y.q) : snpH v x = snpH v y := by
  obtain ⟨h1, h2, h3, h4, h5⟩ := q_parts h
  unfold snpH; rw [h1, h2, h3, h4, h5]
theorem rk_parts {s t : KV} {m n : List (List FV)} (h : s.rk m = t.rk n) : s.ver = t.ver ∧ s.next = t.next ∧ s.keep = t.keep ∧ s.quota = t.quota ∧ s.ses = t.ses ∧ s.ops = t.ops ∧ s.sns.map NV.q = t.sns.map NV.q ∧ padM s.sns.length m = padM t.sns.length n := by
  simp only [KV.rk, RK.mk.injEq] at h
  exact h
theorem rk_rows {v : Int} {s t : KV} {m n : List (List FV)} (h : s.rk m = t.rk n) : (snpsF v s.sns m).map (List.map FV.s) = (snpsF v t.sns n).map (List.map FV.s) := by
  obtain ⟨_, _, _, _, _, _, hq, hp⟩ := rk_parts h
  have hl : s.sns.length = t.sns.length := by have := congrArg List.length hq; simpa using this
  refine List.ext_getElem (by simp [snpsF_len, hl]) fun i h1 h2 => ?_
  simp only [List.length_map, snpsF_len] at h1 h2
  have e1 := congrArg (fun l => l[i]?) hq
  have e2 := congrArg (fun l => l[i]?) hp
  simp only [List.getElem?_map, List.getElem?_eq_getElem h1, List.getElem?_eq_getElem h2, Option.map_some, Option.some.injEq] at e1
  simp only [padM_get h1, padM_get h2, Option.some.injEq] at e2
  simp only [List.getElem_map, snpsF, List.getElem_mapIdx]
  unfold snpF
  rw [List.map_append, List.map_append, snpH_q e1, e2]
theorem s_firstE : ∀ {l m : List (List FV)}, l.map (List.map FV.s) = m.map (List.map FV.s) → firstE l = firstE m
  | [], [], _ => rfl
  | [], _ :: _, h => by simp at h
  | _ :: _, [], h => by simp at h
  | a :: l, b :: m, h => by
    simp only [List.map_cons, List.cons.injEq] at h
    simp only [firstE, s_may h.1, s_firstE h.2]
theorem s_recF (k : Nat) : ∀ {l m : List (List FV)}, l.map (List.map FV.s) = m.map (List.map FV.s) → recF k l = recF k m
  | [], [], _ => rfl
  | [], _ :: _, h => by simp at h
  | _ :: _, [], h => by simp at h
  | a :: l, b :: m, h => by
    simp only [List.map_cons, List.cons.injEq] at h
    have := s_recF k h.2
    unfold recF at this ⊢
    rw [List.map_cons, List.map_cons, this, s_rput h.1]
theorem risB_key {α β : Type} {key : α → Int} {q : α → β} {k : β → Int} (hk : ∀ x, key x = k (q x)) (m : Int) : ∀ {l r : List α} (a : Int), l.map q = r.map q → risB key m a l = risB key m a r
  | [], [], _, _ => rfl
  | [], _ :: _, _, h => by simp at h
  | _ :: _, [], _, h => by simp at h
  | x :: l, y :: r, a, h => by
    simp only [List.map_cons, List.cons.injEq] at h
    have e : key x = key y := by rw [hk, hk, h.1]
    rw [risB_cons, risB_cons, e, risB_key hk m _ h.2]
theorem all_key {α β : Type} {p : α → Bool} {q : α → β} (hp : ∀ x y, q x = q y → p x = p y) : ∀ {l r : List α}, l.map q = r.map q → l.all p = r.all p
  | [], [], _ => rfl
  | [], _ :: _, h => by simp at h
  | _ :: _, [], h => by simp at h
  | x :: l, y :: r, h => by
    simp only [List.map_cons, List.cons.injEq] at h
    rw [List.all_cons, List.all_cons, hp x y h.1, all_key hp h.2]
theorem rk_may {s t : KV} {m n : List (List FV)} (h : s.rk m = t.rk n) (v : Int) : kmay s v = kmay t v := by
  obtain ⟨h1, h2, h3, h4, h5, h6, hq, _⟩ := rk_parts h
  have hl : s.sns.length = t.sns.length := by have := congrArg List.length hq; simpa using this
  unfold kmay numB snsB
  rw [h1, h2, h3, h4, h5, h6, hl, risB_key (key := NV.id) (q := NV.q) (k := fun p => p.1) (fun _ => rfl) _ _ hq]
  rw [all_key (p := snB v (tagLim v)) (q := NV.q) (fun x y e => by
    obtain ⟨e1, e2, e3, e4, e5⟩ := q_parts e
    unfold snB; rw [e2, e3, e4, e5]) hq]
theorem rk_stF {v : Int} {s t : KV} {m n : List (List FV)} {a b : List FV} (h : s.rk m = t.rk n) (hab : a.map FV.s = b.map FV.s) : (stF v s m a).map FV.s = (stF v t n b).map FV.s := by
  obtain ⟨h1, h2, h3, h4, h5, h6, _, _⟩ := rk_parts h
  unfold stF
  rw [h1, h2, h3, h4, h5, h6, s_recF 6 (rk_rows (v := v) h)]
  simp only [List.map_append, hab]
theorem s_low {k : Nat} {l m : List FV} (h : l.map FV.s = m.map FV.s) : lowK k l = lowK k m := by
  unfold lowK
  have e : ∀ l : List FV, (l.any fun f => decide (f.num ≤ k)) = (l.map FV.s).any fun p => decide (p.1 ≤ k) := by intro l; rw [List.any_map]; rfl
  rw [e, e, h]
theorem pad_low {k n : Nat} {m : List (List FV)} (h : m.length ≤ n) : m.any (lowK k) = (padM n m).any fun l => l.any fun p => decide (p.1 ≤ k) := by
  rw [Bool.eq_iff_iff, List.any_eq_true, List.any_eq_true]
  have e : ∀ l : List FV, lowK k l = (l.map FV.s).any fun p => decide (p.1 ≤ k) := by intro l; unfold lowK; rw [List.any_map]; rfl
  constructor
  · rintro ⟨l, hl, hk⟩
    obtain ⟨i, hi, rfl⟩ := List.mem_iff_getElem.1 hl
    refine ⟨m[i].map FV.s, ?_, by rw [← e]; exact hk⟩
    exact List.mem_iff_getElem?.2 ⟨i, by rw [padM_get (by omega), List.getElem?_eq_getElem hi]; rfl⟩
  · rintro ⟨l, hl, hk⟩
    obtain ⟨i, hi⟩ := List.mem_iff_getElem?.1 hl
    have hin : i < n := by
      have := (List.getElem?_eq_some_iff.1 hi).1
      simpa [padM] using this
    rw [padM_get hin, Option.some.injEq] at hi
    subst hi
    by_cases him : i < m.length
    · rw [List.getElem?_eq_getElem him] at hk
      exact ⟨m[i], List.getElem_mem _, by rw [e]; exact hk⟩
    · rw [List.getElem?_eq_none (by omega)] at hk; simp at hk
theorem rk_bad {v : Int} {s t : KV} {m n : List (List FV)} {a b : List FV} (h : s.rk m = t.rk n) (hab : a.map FV.s = b.map FV.s) (l1 : m.length ≤ s.sns.length) (l2 : n.length ≤ t.sns.length) : badRest v s m a = badRest v t n b := by
  obtain ⟨_, _, _, _, _, _, hq, hp⟩ := rk_parts h
  unfold badRest
  rw [s_low hab, pad_low l1, pad_low l2, hp, decide_eq_false (by omega), decide_eq_false (show ¬ t.sns.length < n.length by omega)]
theorem kput_rk {v : Int} {s t : KV} {m n : List (List FV)} {a b : List FV} (h : s.rk m = t.rk n) (hab : a.map FV.s = b.map FV.s) (l1 : m.length ≤ s.sns.length) (l2 : n.length ≤ t.sns.length) : kput v s m a = kput v t n b := by
  have hs := rk_stF (v := v) h hab
  unfold kput
  rw [rk_may h, rk_bad h hab l1 l2, s_firstE (rk_rows h), s_may hs, s_rput hs]
theorem IsKat.len {v : Int} {b : List UInt8} {s : KV} {more : List (List FV)} {top : List FV} (h : IsKat v b s more top) : more.length ≤ s.sns.length := (bad_parts h.bad).2.1
/-- bytes say one catalogue -/
theorem IsKat.same {v : Int} {b : List UInt8} {s t : KV} {m n : List (List FV)} {a c : List FV} (h : IsKat v b s m a) (k : IsKat v b t n c) : s.rk m = t.rk n ∧ a.map FV.s = c.map FV.s := by
  obtain ⟨_, _, _, h1, h2⟩ := h.all
  obtain ⟨_, _, _, k1, k2⟩ := k.all
  exact ⟨(h1 _ rfl).symm.trans (k1 _ rfl), (h2 _ rfl).symm.trans (k2 _ rfl)⟩
/-- what was read fits what is there: Put gives the bytes back -/
theorem IsKat.back {v : Int} {b : List UInt8} {s t : KV} {m n : List (List FV)} {a c : List FV} (h : IsKat v b s m a) (hr : t.rk n = s.rk m) (hc : c.map FV.s = a.map FV.s) (l : n.length ≤ t.sns.length) : Go.Proofs.YtiildgoaiookhaaGreat.kput v t n c = (b, 0) := by
  rw [kput_rk hr hc l h.len]; exact h.kput
theorem IsKat.cat {v : Int} {b : List UInt8} {s t : KV} {m n : List (List FV)} {a c : List FV} (h : IsKat v b s m a) (hr : t.rk n = s.rk m) (hc : c.map FV.s = a.map FV.s) (l : n.length ≤ t.sns.length) (kt : ∀ f ∈ c, U64 f.n ∧ f.len = f.b.length) (km : ∀ r ∈ n, ∀ f ∈ r, U64 f.n ∧ f.len = f.b.length) : IsKat v b t n c :=
  kput_is (h.back hr hc l) kt km

/-! the same -/
theorem snsEq_q : ∀ {l m : List NV}, snsEq l m = true ↔ l.map NV.q = m.map NV.q
  | [], [] => by simp [snsEq]
  | [], _ :: _ => by simp [snsEq]
  | _ :: _, [] => by simp [snsEq]
  | a :: l, b :: m => by
    rw [snsEq_cons, Bool.and_eq_true, snsEq_q, nvEq_iff]
    simp only [List.map_cons, List.cons.injEq, NV.q, Prod.mk.injEq]
    constructor
    · rintro ⟨⟨h1, h2, h3, h4, h5⟩, h6⟩; exact ⟨⟨h1, h2, h5, h3, h4⟩, h6⟩
    · rintro ⟨⟨h1, h2, h3, h4, h5⟩, h6⟩; exact ⟨⟨h1, h2, h4, h5, h3⟩, h6⟩
theorem kSame_rk {s t : KV} {m n : List (List FV)} (h : s.rk m = t.rk n) : kSame s t = true := by
  obtain ⟨h1, h2, h3, h4, h5, h6, hq, _⟩ := rk_parts h
  unfold kSame
  simp [h1, h2, h3, h4, h5, h6, snsEq_q.2 hq]
theorem kSame_iff {s t : KV} : kSame s t = true ↔ s.ver = t.ver ∧ s.next = t.next ∧ s.keep = t.keep ∧ s.quota = t.quota ∧ s.ses = t.ses ∧ s.ops = t.ops ∧ s.sns.map NV.q = t.sns.map NV.q := by
  unfold kSame
  simp only [Bool.and_eq_true, decide_eq_true_eq, snsEq_q]
/-- the list of a snapshot -/
def ofM (more : List (List FV)) (i : Nat) : List FV := more[i]?.getD []
/-- are two rests the same -/
def restEq (m n : List (List FV)) (a b : List FV) : Bool := fsEq a b && (List.range (max m.length n.length)).all fun i => fsEq (ofM m i) (ofM n i)
theorem restEq_iff {m n : List (List FV)} {a b : List FV} (ha : ∀ f ∈ a, f.len = f.b.length) (hb : ∀ f ∈ b, f.len = f.b.length) (hm : ∀ r ∈ m, ∀ f ∈ r, f.len = f.b.length) (hn : ∀ r ∈ n, ∀ f ∈ r, f.len = f.b.length) :
    restEq m n a b = true ↔ a.map FV.s = b.map FV.s ∧ ∀ i, (ofM m i).map FV.s = (ofM n i).map FV.s := by
  have hat : ∀ {m : List (List FV)}, (∀ r ∈ m, ∀ f ∈ r, f.len = f.b.length) → ∀ i, ∀ f ∈ ofM m i, f.len = f.b.length := by
    intro m hm i
    unfold ofM
    by_cases hi : i < m.length
    · rw [List.getElem?_eq_getElem hi]; exact hm _ (List.getElem_mem _)
    · rw [List.getElem?_eq_none (by omega)]; simp
  unfold restEq
  rw [Bool.and_eq_true, fsEq_s ha hb, List.all_eq_true]
  refine and_congr_right fun _ => ⟨fun h i => ?_, fun h i _ => (fsEq_s (hat hm i) (hat hn i)).2 (h i)⟩
  by_cases hi : i < max m.length n.length
  · exact (fsEq_s (hat hm i) (hat hn i)).1 (h i (List.mem_range.2 hi))
  · unfold ofM
    rw [List.getElem?_eq_none (by omega), List.getElem?_eq_none (by omega)]
theorem padM_of {k : Nat} {m n : List (List FV)} (hm : m.length ≤ k) (hn : n.length ≤ k) : padM k m = padM k n ↔ ∀ i, (ofM m i).map FV.s = (ofM n i).map FV.s := by
  constructor
  · intro h i
    by_cases hi : i < k
    · have := congrArg (fun l => l[i]?) h
      simp only [padM_get hi, Option.some.injEq] at this
      exact this
    · unfold ofM
      rw [List.getElem?_eq_none (by omega), List.getElem?_eq_none (by omega)]
  · intro h
    unfold padM
    exact List.map_congr_left fun i _ => h i
theorem rest_rk {s t : KV} {m n : List (List FV)} {a b : List FV} (hr : s.rk m = t.rk n) (hab : a.map FV.s = b.map FV.s) (l1 : m.length ≤ s.sns.length) (l2 : n.length ≤ t.sns.length)
    (ha : ∀ f ∈ a, f.len = f.b.length) (hb : ∀ f ∈ b, f.len = f.b.length) (hm : ∀ r ∈ m, ∀ f ∈ r, f.len = f.b.length) (hn : ∀ r ∈ n, ∀ f ∈ r, f.len = f.b.length) : restEq m n a b = true := by
  obtain ⟨_, _, _, _, _, _, hq, hp⟩ := rk_parts hr
  have hl : s.sns.length = t.sns.length := by have := congrArg List.length hq; simpa using this
  rw [← hl] at hp l2
  exact (restEq_iff ha hb hm hn).2 ⟨hab, (padM_of l1 l2).1 hp⟩
theorem rk_of {s t : KV} {m n : List (List FV)} (h : kSame s t = true) (hi : ∀ i, (ofM m i).map FV.s = (ofM n i).map FV.s) : s.rk m = t.rk n := by
  obtain ⟨h1, h2, h3, h4, h5, h6, hq⟩ := kSame_iff.1 h
  have hl : s.sns.length = t.sns.length := by have := congrArg List.length hq; simpa using this
  unfold KV.rk
  rw [h1, h2, h3, h4, h5, h6, hq, hl]
  have : padM t.sns.length m = padM t.sns.length n := by unfold padM; exact List.map_congr_left fun i _ => hi i
  rw [this]
theorem IsKat.q {v : Int} {b : List UInt8} {s : KV} {m : List (List FV)} {a : List FV} (h : IsKat v b s m a) : (∀ f ∈ a, f.len = f.b.length) ∧ ∀ r ∈ m, ∀ f ∈ r, f.len = f.b.length := ⟨fun f hf => (h.kt f hf).2, fun r hr f hf => (h.km r hr f hf).2⟩
/-- what two say of the same bytes -/
theorem IsKat.two {v : Int} {b : List UInt8} {s t : KV} {m n : List (List FV)} {a c : List FV} (h : IsKat v b s m a) (k : IsKat v b t n c) : kSame s t = true ∧ restEq m n a c = true := by
  obtain ⟨h1, h2⟩ := h.same k
  exact ⟨kSame_rk h1, rest_rk h1 h2 h.len k.len h.q.1 k.q.1 h.q.2 k.q.2⟩
/-- what is cut is none, or another one -/
theorem IsKat.cut {v : Int} {b : List UInt8} {s t : KV} {m n : List (List FV)} {a c : List FV} {i : Nat} (h : IsKat v b s m a) (k : IsKat v (b.take i) t n c) (hi : i < b.length) : ¬ (kSame t s = true ∧ restEq n m c a = true) := by
  rintro ⟨e1, e2⟩
  obtain ⟨e3, e4⟩ := (restEq_iff k.q.1 h.q.1 k.q.2 h.q.2).1 e2
  have e5 := h.back (rk_of e1 e4) e3 k.len
  rw [k.kput] at e5
  have := congrArg List.length (Prod.mk.inj e5).1
  rw [List.length_take] at this
  omega
theorem kput_no {v : Int} {s : KV} {m : List (List FV)} {a : List FV} (h : (kput v s m a).2 ≠ 0) : (kput v s m a).1 = [] := by
  unfold kput at h ⊢
  by_cases h1 : kmay s v ≠ 0
  · rw [if_pos h1]
  · rw [if_neg h1] at h ⊢
    by_cases h2 : badRest v s m a = true
    · rw [if_pos h2]
    · rw [if_neg h2] at h ⊢
      by_cases h3 : firstE (snpsF v s.sns m) ≠ 0
      · rw [if_pos h3]
      · rw [if_neg h3] at h ⊢
        by_cases h4 : fmay (stF v s m a) = 0
        · rw [if_pos h4] at h; exact absurd rfl h
        · rw [if_neg h4]

/-! why bytes are no catalogue -/
def kcode (v : Int) (b : List UInt8) : Nat :=
  if inI v 1 3 = false then 1 else if (ttrow b).2 ≠ 0 then (ttrow b).2 else if checkN (specL 5 v) (ttrow b).1 ≠ 0 then checkN (specL 5 v) (ttrow b).1 else if kreadE v (ttrow b).1 ≠ 0 then kreadE v (ttrow b).1 else 6
/-- bytes are taken as a catalogue, or refused -/
def KTaken (v : Int) (b : List UInt8) (s : KV) (m : List (List FV)) (a : List FV) (code : Nat) : Prop :=
  (code = 0 ∧ IsKat v b s m a ∧ m.length = s.sns.length) ∨ (code ≠ 0 ∧ code = kcode v b ∧ s.ver = 0 ∧ s.next = 0 ∧ s.keep = 0 ∧ s.quota = 0 ∧ s.ses = [] ∧ s.ops = [] ∧ s.sns = [] ∧ m = [] ∧ a = [] ∧ ∀ t n c, ¬ IsKat v b t n c)
theorem ktaken_same {v : Int} {b : List UInt8} {s t : KV} {m n : List (List FV)} {a c : List FV} {e f : Nat} (h : KTaken v b s m a e) (k : KTaken v b t n c f) : e = f ∧ kSame s t = true ∧ restEq m n a c = true := by
  rcases h with ⟨rfl, h, _⟩ | ⟨n1, h2, g1, g2, g3, g4, g5, g6, g7, g8, g9, h5⟩
  · rcases k with ⟨rfl, k, _⟩ | ⟨_, _, _, _, _, _, _, _, _, _, _, k5⟩
    · exact ⟨rfl, h.two k⟩
    · exact absurd h (k5 _ _ _)
  · rcases k with ⟨rfl, k, _⟩ | ⟨m1, k2, l1, l2, l3, l4, l5, l6, l7, l8, l9, _⟩
    · exact absurd k (h5 _ _ _)
    · refine ⟨h2.trans k2.symm, ?_, ?_⟩
      · unfold kSame
        simp [g1, g2, g3, g4, g5, g6, g7, l1, l2, l3, l4, l5, l6, l7, snsEq]
      · subst g8 g9 l8 l9; rfl

/-! what an older version sees -/
def viewN (v : Int) (x : NV) : NV := ⟨x.id, x.set, x.A, x.len, x.cap, x.ch, if v < 2 then false else x.held, if v < 3 then ⟨#[]⟩ else x.tag⟩
def viewK (v : Int) (s : KV) : KV := ⟨s.ver, s.next, s.keep, if v < 3 then 0 else s.quota, s.A1, s.n1, s.c1, s.ses, s.A2, s.n2, s.c2, s.ops, s.A3, s.n3, s.c3, s.sns.map (viewN v)⟩
theorem view_may {v w : Int} {s : KV} (h : kmay s w = 0) (h1 : 1 ≤ v) (hw : v ≤ w) : kmay (viewK v s) v = 0 := by
  obtain ⟨w1, w3⟩ := kmay_ver h
  obtain ⟨a, b, c', d⟩ := (kmay_ok w1 w3).1 h
  refine (kmay_ok h1 (by omega)).2 ⟨?_, b, c', ?_⟩
  · obtain ⟨x1, x2, x3, x4⟩ := numB_iff.1 a
    refine numB_iff.2 ⟨x1, x2, x3, ?_⟩
    unfold viewK quotaLim
    unfold quotaLim at x4
    dsimp only
    by_cases h3 : v < 3
    · rw [if_pos h3, if_pos h3]; omega
    · rw [if_neg h3, if_neg h3]; rw [if_neg (by omega)] at x4; exact x4
  · obtain ⟨y1, y2, y3⟩ := snsB_iff.1 d
    refine snsB_iff.2 ⟨by unfold viewK; simpa using y1, by unfold viewK; dsimp only; rw [risB_map (g := viewN v) (fun _ => rfl)]; exact y2, ?_⟩
    intro f hf
    obtain ⟨g, hg, rfl⟩ := List.mem_map.1 hf
    obtain ⟨z1, z2, z3, z4⟩ := snB_ok.1 (y3 g hg)
    refine snB_ok.2 ⟨z1, z2, fun hh => ?_, ?_⟩
    · unfold viewN at hh
      dsimp only at hh
      by_cases h2 : v < 2
      · rw [if_pos h2] at hh; cases hh
      · omega
    · unfold viewN tagLim
      dsimp only
      by_cases h3 : v < 3
      · rw [if_pos h3, if_pos h3]; exact Int.le_refl 0
      · rw [if_neg h3, if_neg h3]
        unfold tagLim at z4
        rw [if_neg (by omega)] at z4; exact z4
/-- the fields of a snapshot that are later than a version -/
def laterN (v w : Int) (x : NV) : List FV := (if v < 2 ∧ 2 ≤ w ∧ x.held = true then [tfv 4 0 1 []] else []) ++ (if v < 3 ∧ 3 ≤ w ∧ x.tag ≠ ⟨#[]⟩ then [tfv 5 2 0 x.tag.data.toList] else [])
def laterK (v w : Int) (s : KV) : List FV := if v < 3 ∧ 3 ≤ w ∧ s.quota ≠ 0 then [tfv 7 0 s.quota.toNat []] else []
theorem view_snp {v w : Int} {s : KV} (h : KMay w s) (h1 : 1 ≤ v) (hw : v ≤ w) {x : NV} (hx : x ∈ s.sns) (m : List FV) : snpF w x m = snpF v (viewN v x) (laterN v w x ++ m) := by
  obtain ⟨c1, c2, c3, c4, c5, c6⟩ := h.sns x hx
  have w3 := h.v3
  unfold snpF snpH viewN laterN
  dsimp only
  simp only [List.append_assoc, List.cons_append]
  congr 2
  by_cases h2 : v < 2
  · have h3 : v < 3 := by omega
    rw [if_neg (show ¬ (2 ≤ v ∧ _) by omega), if_neg (show ¬ (3 ≤ v ∧ _) by omega)]
    simp only [h2, h3, true_and, List.nil_append]
  · by_cases h3 : v < 3
    · rw [if_neg (show ¬ (3 ≤ v ∧ _) by omega)]
      simp only [h2, h3, if_false, false_and, true_and, List.nil_append]
      rw [if_same (show (2 ≤ w ∧ x.held = true ↔ 2 ≤ v ∧ x.held = true) from ⟨fun k => ⟨by omega, k.2⟩, fun k => ⟨by omega, k.2⟩⟩) rfl rfl]
    · have e : v = w := by omega
      subst e
      simp only [h2, h3, if_false, false_and, List.nil_append]
def viewM (v w : Int) (s : KV) (more : List (List FV)) : List (List FV) := (pairM s.sns more).map fun p => laterN v w p.1 ++ p.2
theorem viewM_len (v w : Int) (s : KV) (more : List (List FV)) : (viewM v w s more).length = s.sns.length := by simp [viewM, pairM]
theorem view_rows {v w : Int} {s : KV} (h : KMay w s) (h1 : 1 ≤ v) (hw : v ≤ w) (more : List (List FV)) : snpsF v (viewK v s).sns (viewM v w s more) = snpsF w s.sns more := by
  unfold snpsF viewM pairM viewK
  dsimp only
  refine List.ext_getElem (by simp) fun i k1 k2 => ?_
  simp only [List.length_mapIdx, List.length_map] at k1 k2
  simp only [List.getElem_mapIdx, List.getElem_map, List.getElem?_map, List.getElem?_mapIdx, List.getElem?_eq_getElem k2, Option.map_some, Option.getD_some]
  exact (view_snp h h1 hw (List.getElem_mem _) _).symm
theorem view_st {v w : Int} {s : KV} (h : KMay w s) (h1 : 1 ≤ v) (hw : v ≤ w) (more : List (List FV)) (top : List FV) : stF v (viewK v s) (viewM v w s more) (laterK v w s ++ top) = stF w s more top := by
  unfold stF
  rw [view_rows h h1 hw]
  unfold viewK laterK
  dsimp only
  congr 4
  have w3 := h.v3
  by_cases h3 : v < 3
  · rw [if_neg (show ¬ (3 ≤ v ∧ _) by omega), List.nil_append]
    simp only [h3, true_and]
  · have e : v = w := by omega
    subst e
    simp only [h3, if_false, false_and, List.nil_append]
theorem IsKat.view {v w : Int} {b : List UInt8} {s : KV} {more : List (List FV)} {top : List FV} (h : IsKat w b s more top) (h1 : 1 ≤ v) (hw : v ≤ w) : IsKat v b (viewK v s) (viewM v w s more) (laterK v w s ++ top) := by
  have hk := kmay_parts h.may
  obtain ⟨b1, b2, b3⟩ := bad_parts h.bad
  have ht1 := top_ver h1 (show v ≤ 3 by have := hk.v3; omega)
  have ht2 := top_ver hk.v1 hk.v3
  have l1 := lowK_all b1
  have hq := hk.quota
  refine ⟨view_may h.may h1 hw, ?_, ?_, ?_, ?_, ?_, ?_⟩
  · unfold badRest
    rw [viewM_len, show (viewK v s).sns.length = s.sns.length by simp [viewK], decide_eq_false (by omega), Bool.or_false, Bool.or_eq_false_iff]
    constructor
    · unfold lowK
      rw [List.any_eq_false]
      intro f hf
      rcases List.mem_append.1 hf with hf | hf
      · unfold laterK at hf
        split at hf
        · simp only [List.mem_singleton] at hf; subst hf; refine fun hc => ?_; have hc := of_decide_eq_true hc; simp only [tfv] at hc; omega
        · simp at hf
      · have := l1 f hf; simp only [decide_eq_true_eq]; omega
    · rw [List.any_eq_false]
      intro r hr
      unfold viewM at hr
      obtain ⟨p, hp, rfl⟩ := List.mem_map.1 hr
      obtain ⟨_, p2, _⟩ := h.pair p hp
      have l2 := lowK_all p2
      unfold lowK
      rw [Bool.not_eq_true, List.any_eq_false]
      intro f hf
      rcases List.mem_append.1 hf with hf | hf
      · unfold laterN at hf
        rcases List.mem_append.1 hf with hf | hf
        · split at hf
          · rename_i hc; simp only [List.mem_singleton] at hf; subst hf; refine fun hc => ?_; have hc := of_decide_eq_true hc; simp only [tfv] at hc; omega
          · simp at hf
        · split at hf
          · rename_i hc; simp only [List.mem_singleton] at hf; subst hf; refine fun hc => ?_; have hc := of_decide_eq_true hc; simp only [tfv] at hc; omega
          · simp at hf
      · have := l2 f hf; simp only [decide_eq_true_eq]; omega
  · rw [view_rows hk h1 hw]; exact h.rows
  · rw [view_st hk h1 hw]; exact h.row
  · rw [view_st hk h1 hw]; exact h.put
  · intro f hf
    rcases List.mem_append.1 hf with hf | hf
    · unfold laterK at hf
      split at hf
      · simp only [List.mem_singleton] at hf; subst hf; exact tfv_k _ _ _ _ (by unfold U64; omega)
      · simp at hf
    · exact h.kt f hf
  · intro r hr
    unfold viewM at hr
    obtain ⟨p, hp, rfl⟩ := List.mem_map.1 hr
    obtain ⟨_, _, _, p4⟩ := h.pair p hp
    intro f hf
    rcases List.mem_append.1 hf with hf | hf
    · unfold laterN at hf
      rcases List.mem_append.1 hf with hf | hf
      · split at hf
        · simp only [List.mem_singleton] at hf; subst hf; exact tfv_k _ _ _ _ (by unfold U64; omega)
        · simp at hf
      · split at hf
        · simp only [List.mem_singleton] at hf; subst hf; exact tfv_k _ _ _ _ (by unfold U64; omega)
        · simp at hf
    · exact p4 f hf
theorem kmay_grow {s : KV} {u v : Int} (h : kmay s u = 0) (huv : u ≤ v) (h3 : v ≤ 3) : kmay s v = 0 := by
  obtain ⟨u1, u3⟩ := kmay_ver h
  have : v = u ∨ v = u + 1 ∨ v = u + 1 + 1 := by omega
  rcases this with rfl | rfl | rfl
  · exact h
  · exact kmay_up u1 (by omega) h
  · exact kmay_up (by omega) (by omega) (kmay_up u1 (by omega) h)
/-- what may be at two versions has the same bytes at both -/
theorem stF_same {s : KV} {u v : Int} (hu : kmay s u = 0) (hv : kmay s v = 0) : stF u s [] [] = stF v s [] [] := by
  have k1 := kmay_parts hu
  have k2 := kmay_parts hv
  have e1 : snpsF u s.sns [] = snpsF v s.sns [] := by
    rw [snpsF_nil, snpsF_nil]
    refine List.map_congr_left fun x hx => ?_
    obtain ⟨_, _, _, a4, _, a6⟩ := k1.sns x hx
    obtain ⟨_, _, _, c4, _, c6⟩ := k2.sns x hx
    unfold snpH
    rw [if_same (show (2 ≤ u ∧ x.held = true ↔ 2 ≤ v ∧ x.held = true) from ⟨fun k => ⟨c4 k.2, k.2⟩, fun k => ⟨a4 k.2, k.2⟩⟩) rfl rfl]
    rw [if_same (show (3 ≤ u ∧ x.tag ≠ ⟨#[]⟩ ↔ 3 ≤ v ∧ x.tag ≠ ⟨#[]⟩) from ⟨fun k => ⟨by by_cases h : v < 3; exact absurd (c6 h) k.2; omega, k.2⟩, fun k => ⟨by by_cases h : u < 3; exact absurd (a6 h) k.2; omega, k.2⟩⟩) rfl rfl]
  unfold stF
  rw [e1, if_same (show (3 ≤ u ∧ s.quota ≠ 0 ↔ 3 ≤ v ∧ s.quota ≠ 0) from ⟨fun k => ⟨by by_cases h : v < 3; exact absurd (k2.q3 h) k.2; omega, k.2⟩, fun k => ⟨by by_cases h : u < 3; exact absurd (k1.q3 h) k.2; omega, k.2⟩⟩) rfl rfl]
theorem vsize_up : ∀ {a b : Nat}, a ≤ b → vsize a ≤ vsize b := by
  intro a
  induction a using Nat.strongRecOn with
  | _ a ih =>
    intro b hab
    by_cases h : a < 128
    · have h1 : vsize a = 1 := by rw [vsize]; simp [h]
      rw [h1]; exact vsize_pos b
    · have h1 : vsize a = vsize (a / 128) + 1 := by rw [vsize]; simp [h]
      have h2 : vsize b = vsize (b / 128) + 1 := by rw [vsize]; simp [show ¬ b < 128 by omega]
      have := ih (a / 128) (by omega) (b := b / 128) (by omega)
      omega
theorem rec_up (k : Nat) {α : Type} (f g : α → List FV) (h : ∀ x, (rput (f x)).length ≤ (rput (g x)).length) : ∀ l : List α, fsum (recF k (l.map f)) ≤ fsum (recF k (l.map g))
  | [] => Nat.le_refl _
  | x :: l => by
    have ih := rec_up k f g h l
    have e : ∀ r : List FV, ∀ t : List (List FV), fsum (recF k (r :: t)) = fsize (tfv k 2 0 (rput r)) + fsum (recF k t) := by intro r t; simp [recF, fsum]
    have z : ∀ b : List UInt8, fsize (tfv k 2 0 b) = (vput (8 * k + 2)).length + (vsize b.length + b.length) := by
      intro b
      unfold fsize fput
      simp [tfv, vput_len]
    rw [List.map_cons, List.map_cons, e, e, z, z]
    have h1 := h x
    have h2 := vsize_up h1
    omega
/-- an older version's view has no more bytes -/
theorem view_short (u : Int) (k : KV) (more : List (List FV)) (top : List FV) : (rput (stF u k [] [])).length ≤ (rput (stF u k more top)).length := by
  rw [rput_len, rput_len]
  unfold stF
  simp only [fsum_append]
  have h : fsum (recF 6 (snpsF u k.sns [])) ≤ fsum (recF 6 (snpsF u k.sns more)) := by
    rw [← pairM_rows u k.sns more, snpsF_nil]
    have e : k.sns.map (snpH u) = (pairM k.sns more).map fun p => snpH u p.1 := by
      unfold pairM
      exact List.ext_getElem (by simp) fun i h1 h2 => by simp
    rw [e]
    refine rec_up 6 _ _ (fun p => ?_) _
    unfold snpF
    rw [rput_app, List.length_append]; omega
  have e0 : fsum [] = 0 := rfl
  omega
end Go.Proofs.YtiildgoaiookhaaGreat

/- What the document reads of a catalogue's fields: the first field of a number. Plain. -/
namespace Go.Proofs.YtiildgoaiookhaaGreat
open Go.RowKit

/-- the number of the first field of a number -/
def dnum (l : List FV) (k : Int) : Int := ((l.find? fun f => decide (f.num = k)).map fun f => ((min f.n 1048577 : Nat) : Int)).getD 0
/-- the bytes of the first field of a number -/
def ddat (l : List FV) (k : Int) : List UInt8 := ((l.find? fun f => decide (f.num = k)).map FV.b).getD []
theorem dnum_cons (f : FV) (r : List FV) (k : Int) : dnum (f :: r) k = if f.num = k then ((min f.n 1048577 : Nat) : Int) else dnum r k := by
  unfold dnum
  by_cases h : f.num = k
  · rw [List.find?_cons_of_pos (by simpa using h), if_pos h]; rfl
  · rw [List.find?_cons_of_neg (by simpa using h), if_neg h]
theorem ddat_cons (f : FV) (r : List FV) (k : Int) : ddat (f :: r) k = if f.num = k then f.b else ddat r k := by
  unfold ddat
  by_cases h : f.num = k
  · rw [List.find?_cons_of_pos (by simpa using h), if_pos h]; rfl
  · rw [List.find?_cons_of_neg (by simpa using h), if_neg h]
theorem dnum_nil (k : Int) : dnum [] k = 0 := rfl
theorem ddat_nil (k : Int) : ddat [] k = [] := rfl
theorem s_dnum : ∀ {l m : List FV} (k : Int), l.map FV.s = m.map FV.s → dnum l k = dnum m k
  | [], [], _, _ => rfl
  | [], b :: r, _, h => by simp at h
  | a :: l, [], _, h => by simp at h
  | a :: l, b :: r, k, h => by
    simp only [List.map_cons, List.cons.injEq] at h
    obtain ⟨h1, _, h3, _, _⟩ := s_parts h.1
    rw [dnum_cons, dnum_cons, h1, h3, s_dnum k h.2]
theorem s_ddat : ∀ {l m : List FV} (k : Int), l.map FV.s = m.map FV.s → ddat l k = ddat m k
  | [], [], _, _ => rfl
  | [], b :: r, _, h => by simp at h
  | a :: l, [], _, h => by simp at h
  | a :: l, b :: r, k, h => by
    simp only [List.map_cons, List.cons.injEq] at h
    obtain ⟨h1, _, _, _, h5⟩ := s_parts h.1
    rw [ddat_cons, ddat_cons, h1, h5, s_ddat k h.2]
theorem dnum_app {l m : List FV} {k : Int} (h : ∀ f ∈ l, f.num ≠ k) : dnum (l ++ m) k = dnum m k := by
  induction l with
  | nil => rfl
  | cons a r ih =>
    rw [List.cons_append, dnum_cons, if_neg (h a (by simp))]
    exact ih fun f hf => h f (List.mem_cons_of_mem _ hf)
theorem dnum_no {l : List FV} {k : Int} (h : ∀ f ∈ l, f.num ≠ k) : dnum l k = 0 := by
  have := dnum_app (m := []) h
  rw [List.append_nil] at this
  exact this
theorem dnum_F (x : Int) (i : Nat) (R : List FV) (k : Int) : dnum ((if x = 0 then [] else [tfv i 0 x.toNat []]) ++ R) k = if x = 0 then dnum R k else if (i : Int) = k then ((min x.toNat 1048577 : Nat) : Int) else dnum R k := by
  by_cases h : x = 0
  · rw [if_pos h, if_pos h]; rfl
  · rw [if_neg h, if_neg h, List.singleton_append, dnum_cons]; rfl
theorem ddat_F (x : Int) (i : Nat) (R : List FV) (k : Int) (hk : (i : Int) ≠ k) : ddat ((if x = 0 then [] else [tfv i 0 x.toNat []]) ++ R) k = ddat R k := by
  by_cases h : x = 0
  · rw [if_pos h]; rfl
  · rw [if_neg h, List.singleton_append, ddat_cons, if_neg (show ¬ (tfv i 0 x.toNat []).num = k from hk)]
theorem min20 {x : Int} (h0 : 0 ≤ x) (h : x ≤ 1048576) : ((min x.toNat 1048577 : Nat) : Int) = x := by omega
def dses (l : List FV) : CV := ⟨dnum l 1, dnum l 2, dnum l 3, dnum l 4⟩
def dopn (l : List FV) : OV := ⟨dnum l 1, dnum l 2⟩
def dsnp (l : List FV) : NQ := ⟨dnum l 1, dnum l 2, unch (ddat l 3), decide (dnum l 4 ≠ 0), ⟨(ddat l 5).toArray⟩⟩
theorem s_dses {l m : List FV} (h : l.map FV.s = m.map FV.s) : dses l = dses m := by unfold dses; rw [s_dnum 1 h, s_dnum 2 h, s_dnum 3 h, s_dnum 4 h]
theorem s_dopn {l m : List FV} (h : l.map FV.s = m.map FV.s) : dopn l = dopn m := by unfold dopn; rw [s_dnum 1 h, s_dnum 2 h]
theorem s_dsnp {l m : List FV} (h : l.map FV.s = m.map FV.s) : dsnp l = dsnp m := by unfold dsnp; rw [s_dnum 1 h, s_dnum 2 h, s_dnum 4 h, s_ddat 3 h, s_ddat 5 h]
theorem dses_F {x : CV} (h : ∀ n ∈ [x.client, x.seq, x.code, x.n], 0 ≤ n ∧ n ≤ 1048576) : dses (sesF x) = x := by
  have m1 := min20 (h x.client (by simp)).1 (h x.client (by simp)).2
  have m2 := min20 (h x.seq (by simp)).1 (h x.seq (by simp)).2
  have m3 := min20 (h x.code (by simp)).1 (h x.code (by simp)).2
  have m4 := min20 (h x.n (by simp)).1 (h x.n (by simp)).2
  unfold dses sesF
  simp only [numF_cons, numF_nil, dnum_F, dnum_nil, m1, m2, m3, m4]
  obtain ⟨a, b, c, d⟩ := x
  dsimp only
  by_cases ha : a = 0 <;> by_cases hb : b = 0 <;> by_cases hc : c = 0 <;> by_cases hd : d = 0 <;> simp [ha, hb, hc, hd]
theorem dopn_F {x : OV} (h : ∀ n ∈ [x.set, x.client], 0 ≤ n ∧ n ≤ 1048576) : dopn (opnF x) = x := by
  have m1 := min20 (h x.set (by simp)).1 (h x.set (by simp)).2
  have m2 := min20 (h x.client (by simp)).1 (h x.client (by simp)).2
  unfold dopn opnF
  simp only [numF_cons, numF_nil, dnum_F, dnum_nil, m1, m2]
  obtain ⟨a, b⟩ := x
  dsimp only
  by_cases ha : a = 0 <;> by_cases hb : b = 0 <;> simp [ha, hb]
theorem dsnp_H {v : Int} {s : KV} (h : KMay v s) {x : NV} (hx : x ∈ s.sns) : dsnp (snpH v x) = x.nq := by
  obtain ⟨c1, c2, c3, c4, c5, c6⟩ := h.sns x hx
  have m1 := min20 (x := x.id) (by omega) (by omega)
  have m2 := min20 (x := x.set) (by omega) (by omega)
  have n1 : x.id ≠ 0 := by omega
  have n2 : x.set ≠ 0 := by omega
  unfold dsnp snpH
  simp only [numF_cons, numF_nil, List.append_assoc, List.nil_append]
  rw [dnum_F, dnum_F, dnum_F, dnum_F, dnum_F, dnum_F, ddat_F _ _ _ _ (by decide), ddat_F _ _ _ _ (by decide), ddat_F _ _ _ _ (by decide), ddat_F _ _ _ _ (by decide)]
  simp only [n1, n2, if_false, m1, m2]
  rw [if_pos (show ((1 : Nat) : Int) = 1 by rfl), if_neg (show ¬ ((1 : Nat) : Int) = 2 by decide), if_pos (show ((1 + 1 : Nat) : Int) = 2 by rfl), if_neg (show ¬ ((1 : Nat) : Int) = 4 by decide), if_neg (show ¬ ((1 + 1 : Nat) : Int) = 4 by decide)]
  have e4 : decide (dnum (tfv 3 2 0 (chput x.ch) :: ((if 2 ≤ v ∧ x.held = true then [tfv 4 0 1 []] else []) ++ (if 3 ≤ v ∧ x.tag ≠ ⟨#[]⟩ then [tfv 5 2 0 x.tag.data.toList] else []))) 4 ≠ 0) = x.held := by
    rw [dnum_cons, if_neg (by simp [tfv])]
    by_cases hh : x.held = true
    · rw [if_pos ⟨c4 hh, hh⟩, hh]; rfl
    · rw [if_neg (fun k => hh k.2), List.nil_append]
      have hz : x.held = false := by simpa using hh
      rw [hz]
      split
      · rfl
      · rfl
  have e5 : (⟨(ddat (tfv 3 2 0 (chput x.ch) :: ((if 2 ≤ v ∧ x.held = true then [tfv 4 0 1 []] else []) ++ (if 3 ≤ v ∧ x.tag ≠ ⟨#[]⟩ then [tfv 5 2 0 x.tag.data.toList] else []))) 5).toArray⟩ : ByteArray) = x.tag := by
    rw [ddat_cons, if_neg (by simp [tfv])]
    have e : ∀ R : List FV, ddat ((if 2 ≤ v ∧ x.held = true then [tfv 4 0 1 []] else []) ++ R) 5 = ddat R 5 := by
      intro R
      split
      · rfl
      · rfl
    rw [e]
    by_cases ht : x.tag = ⟨#[]⟩
    · rw [if_neg (fun k => k.2 ht), ht]; rfl
    · have h3 : 3 ≤ v := by
        by_cases h3 : v < 3
        · exact absurd (c6 h3) ht
        · omega
      rw [if_pos ⟨h3, ht⟩]; rfl
  have e3 : unch (ddat (tfv 3 2 0 (chput x.ch) :: ((if 2 ≤ v ∧ x.held = true then [tfv 4 0 1 []] else []) ++ (if 3 ≤ v ∧ x.tag ≠ ⟨#[]⟩ then [tfv 5 2 0 x.tag.data.toList] else []))) 3) = x.ch := by
    rw [ddat_cons, if_pos (by rfl)]
    exact unch_put c3
  rw [e4, e5, e3]
  simp [NV.nq]

/-! a catalogue -/
def dstep (v : Int) (X : RK) (f : FV) : RK :=
  if f.num = 4 then { X with ses := X.ses ++ [dses (ttrow f.b).1] }
  else if f.num = 5 then { X with ops := X.ops ++ [dopn (ttrow f.b).1] }
  else if f.num = 6 then { X with sns := X.sns ++ [(dsnp ((ttrow f.b).1.filter (loB (topN v)))).q], more := X.more ++ [((ttrow f.b).1.filter fun f => !loB (topN v) f).map FV.s] }
  else X
theorem dstep_no {v : Int} {X : RK} {f : FV} (h : f.num < 4 ∨ 6 < f.num) : dstep v X f = X := by
  unfold dstep
  rw [if_neg (by omega), if_neg (by omega), if_neg (by omega)]
theorem dfold_no {v : Int} : ∀ {l : List FV} {X : RK}, (∀ f ∈ l, f.num < 4 ∨ 6 < f.num) → l.foldl (dstep v) X = X
  | [], _, _ => rfl
  | a :: r, X, h => by
    rw [List.foldl_cons, dstep_no (h a (by simp))]
    exact dfold_no fun f hf => h f (List.mem_cons_of_mem _ hf)
theorem s_dstep (v : Int) (X : RK) (f f' : FV) (h : FV.s f = FV.s f') : dstep v X f = dstep v X f' := by
  obtain ⟨h1, h2, h3, h4, h5⟩ := s_parts h
  unfold dstep; rw [h1, h5]
/-- what the document reads ahead of its loop -/
def dzero (l : List FV) : RK := ⟨dnum l 1, dnum l 2, dnum l 3, 0, [], [], [], []⟩
def dread (v : Int) (l : List FV) : RK := { l.foldl (dstep v) (dzero l) with quota := dnum (l.filter (loB (topS v))) 7 }
theorem s_dread {v : Int} {l m : List FV} (h : l.map FV.s = m.map FV.s) : dread v l = dread v m := by
  have hz : dzero l = dzero m := by unfold dzero; rw [s_dnum 1 h, s_dnum 2 h, s_dnum 3 h]
  unfold dread
  rw [hz, s_fold _ (s_dstep v) l m _ h, s_dnum 7 (s_filter h (topS v)).1]
theorem dses_rec {v : Int} {s : KV} (h : KMay v s) {x : CV} (hx : x ∈ s.ses) : dses (ttrow (rput (sesF x))).1 = x := by
  obtain ⟨r1, r2⟩ := row_of (ses_may h hx).1 (numF_k _ 1 (ses_nums h hx))
  obtain ⟨c1, c2, c3, c4⟩ := h.ses x hx
  rw [s_dses r2]
  refine dses_F fun n hn => ?_
  simp only [List.mem_cons, List.not_mem_nil, or_false] at hn
  rcases hn with rfl | rfl | rfl | rfl <;> omega
theorem dopn_rec {v : Int} {s : KV} (h : KMay v s) {x : OV} (hx : x ∈ s.ops) : dopn (ttrow (rput (opnF x))).1 = x := by
  obtain ⟨r1, r2⟩ := row_of (opn_may h hx).1 (numF_k _ 1 (opn_nums h hx))
  obtain ⟨c1, c2⟩ := h.ops x hx
  rw [s_dopn r2]
  refine dopn_F fun n hn => ?_
  simp only [List.mem_cons, List.not_mem_nil, or_false] at hn
  rcases hn with rfl | rfl <;> omega
theorem dsnp_rec {v : Int} {s : KV} (h : KMay v s) {x : NV} (hx : x ∈ s.sns) {m : List FV} (hm : lowK (topN v) m = false) (hr : fmay (snpF v x m) = 0) (hk : ∀ f ∈ m, U64 f.n ∧ f.len = f.b.length) :
    (dsnp ((ttrow (rput (snpF v x m))).1.filter (loB (topN v)))).q = x.q := by
  have hkk : ∀ f ∈ snpF v x m, U64 f.n ∧ f.len = f.b.length := by
    intro f hf
    rcases List.mem_append.1 hf with hf | hf
    · exact snpH_k h v hx f hf
    · exact hk f hf
  obtain ⟨r1, r2⟩ := row_of hr hkk
  have ht := top_ver h.v1 h.v3
  obtain ⟨f1, f2⟩ := split_filter (l := snpH v x) (m := m) (k := topN v) (fun f hf => (snpH_num (v := v) (ver := v) (x := x) (by omega) rfl f hf).2) hm
  obtain ⟨g1, g2⟩ := s_filter r2 (topN v)
  have e : snpF v x m = snpH v x ++ m := rfl
  rw [e, f1] at g1
  rw [e, s_dsnp g1, dsnp_H h hx]; rfl
theorem dread_ses {v : Int} {s : KV} (h : KMay v s) : ∀ (l : List CV) (X : RK), (∀ x ∈ l, x ∈ s.ses) → (recF 4 (l.map sesF)).foldl (dstep v) X = { X with ses := X.ses ++ l }
  | [], X, _ => by simp [recF]
  | x :: r, X, hl => by
    have ih := dread_ses h r { X with ses := X.ses ++ [x] } fun y hy => hl y (List.mem_cons_of_mem _ hy)
    have e : recF 4 ((x :: r).map sesF) = tfv 4 2 0 (rput (sesF x)) :: recF 4 (r.map sesF) := rfl
    rw [e, List.foldl_cons]
    have e2 : dstep v X (tfv 4 2 0 (rput (sesF x))) = { X with ses := X.ses ++ [x] } := by
      unfold dstep
      rw [if_pos (by rfl)]
      show ({ X with ses := X.ses ++ [dses (ttrow (rput (sesF x))).1] } : RK) = _
      rw [dses_rec h (hl x (by simp))]
    rw [e2, ih]; simp
theorem dread_ops {v : Int} {s : KV} (h : KMay v s) : ∀ (l : List OV) (X : RK), (∀ x ∈ l, x ∈ s.ops) → (recF 5 (l.map opnF)).foldl (dstep v) X = { X with ops := X.ops ++ l }
  | [], X, _ => by simp [recF]
  | x :: r, X, hl => by
    have ih := dread_ops h r { X with ops := X.ops ++ [x] } fun y hy => hl y (List.mem_cons_of_mem _ hy)
    have e : recF 5 ((x :: r).map opnF) = tfv 5 2 0 (rput (opnF x)) :: recF 5 (r.map opnF) := rfl
    rw [e, List.foldl_cons]
    have e2 : dstep v X (tfv 5 2 0 (rput (opnF x))) = { X with ops := X.ops ++ [x] } := by
      unfold dstep
      rw [if_neg (by simp [tfv]), if_pos (by rfl)]
      show ({ X with ops := X.ops ++ [dopn (ttrow (rput (opnF x))).1] } : RK) = _
      rw [dopn_rec h (hl x (by simp))]
    rw [e2, ih]; simp
theorem dread_sns {v : Int} {s : KV} (h : KMay v s) (R : NV → List FV → List FV) (hR : ∀ x m, R x m = snpF v x m) : ∀ (l : List (NV × List FV)) (X : RK), (∀ p ∈ l, p.1 ∈ s.sns ∧ lowK (topN v) p.2 = false ∧ fmay (snpF v p.1 p.2) = 0 ∧ ∀ f ∈ p.2, U64 f.n ∧ f.len = f.b.length) →
    (recF 6 (l.map fun p => R p.1 p.2)).foldl (dstep v) X = { X with sns := X.sns ++ l.map fun p => p.1.q, more := X.more ++ l.map fun p => p.2.map FV.s }
  | [], X, _ => by simp [recF]
  | (x, m) :: r, X, hl => by
    have ih := dread_sns h R hR r { X with sns := X.sns ++ [x.q], more := X.more ++ [m.map FV.s] } fun y hy => hl y (List.mem_cons_of_mem _ hy)
    have e : recF 6 (((x, m) :: r).map fun p => R p.1 p.2) = tfv 6 2 0 (rput (R x m)) :: recF 6 (r.map fun p => R p.1 p.2) := rfl
    rw [e, List.foldl_cons, hR]
    obtain ⟨p1, p2, p3, p4⟩ := hl (x, m) (by simp)
    have q2 := dsnp_rec h p1 p2 p3 p4
    obtain ⟨_, _, q3⟩ := snp_rec h p1 p2 p3 p4
    have e2 : dstep v X (tfv 6 2 0 (rput (snpF v x m))) = { X with sns := X.sns ++ [x.q], more := X.more ++ [m.map FV.s] } := by
      unfold dstep
      rw [if_neg (by simp [tfv]), if_neg (by simp [tfv]), if_pos (by rfl)]
      show ({ X with sns := X.sns ++ [(dsnp ((ttrow (rput (snpF v x m))).1.filter (loB (topN v)))).q], more := X.more ++ [((ttrow (rput (snpF v x m))).1.filter fun f => !loB (topN v) f).map FV.s] } : RK) = _
      rw [q2, q3]
    rw [e2, ih]; simp
theorem recF_no {k : Nat} {rows : List (List FV)} {n : Int} (h : (k : Int) ≠ n) : ∀ f ∈ recF k rows, f.num ≠ n := by
  intro f hf
  unfold recF at hf
  obtain ⟨r, _, rfl⟩ := List.mem_map.1 hf
  exact h
/-- a catalogue's own fields hold its numbers -/
theorem dread_nums {v : Int} {b : List UInt8} {s : KV} {more : List (List FV)} {top : List FV} (h : IsKat v b s more top) :
    dnum (stF v s more top) 1 = s.ver ∧ dnum (stF v s more top) 2 = s.next ∧ dnum (stF v s more top) 3 = s.keep ∧ dnum (stH v s more) 7 = s.quota := by
  have hk := kmay_parts h.may
  obtain ⟨b1, _, _⟩ := bad_parts h.bad
  have ht := top_ver hk.v1 hk.v3
  have h1 := hk.ver
  have h2 := hk.next
  have h3 := hk.keep
  have h4 := hk.quota
  have m1 := min20 (x := s.ver) (by omega) (by omega)
  have m2 := min20 (x := s.next) (by omega) (by omega)
  have m3 := min20 (x := s.keep) (by omega) (by omega)
  have m4 := min20 (x := s.quota) (by omega) (by omega)
  have n1 : s.ver ≠ 0 := by omega
  have n2 : s.next ≠ 0 := by omega
  have hR : ∀ f ∈ recF 4 (s.ses.map sesF) ++ (recF 5 (s.ops.map opnF) ++ (recF 6 (snpsF v s.sns more) ++ ((if 3 ≤ v ∧ s.quota ≠ 0 then [tfv 7 0 s.quota.toNat []] else []) ++ top))), f.num ≠ 3 := by
    intro f hf
    rcases List.mem_append.1 hf with hf | hf
    · exact recF_no (by decide) f hf
    rcases List.mem_append.1 hf with hf | hf
    · exact recF_no (by decide) f hf
    rcases List.mem_append.1 hf with hf | hf
    · exact recF_no (by decide) f hf
    rcases List.mem_append.1 hf with hf | hf
    · split at hf
      · simp only [List.mem_singleton] at hf; subst hf; simp [tfv]
      · simp at hf
    · unfold lowK at b1
      have := List.any_eq_false.1 b1 f hf
      simp only [decide_eq_true_eq] at this
      omega
  have hQ : ∀ f ∈ numF 1 [s.ver, s.next, s.keep], f.num ≠ 7 := by
    intro f hf
    have := numF_nums f hf
    simp only [List.length_cons, List.length_nil] at this
    omega
  refine ⟨?_, ?_, ?_, ?_⟩
  · unfold stF
    simp only [numF_cons, numF_nil, List.append_assoc, List.nil_append]
    rw [dnum_F, if_neg n1, if_pos (by rfl), m1]
  · unfold stF
    simp only [numF_cons, numF_nil, List.append_assoc, List.nil_append]
    rw [dnum_F, if_neg n1, if_neg (by decide), dnum_F, if_neg n2, if_pos (by rfl), m2]
  · unfold stF
    simp only [numF_cons, numF_nil, List.append_assoc, List.nil_append]
    rw [dnum_F, if_neg n1, if_neg (by decide), dnum_F, if_neg n2, if_neg (by decide), dnum_F, dnum_no hR, m3]
    by_cases h0 : s.keep = 0
    · rw [if_pos h0, h0]
    · rw [if_neg h0, if_pos (by rfl)]
  · unfold stH
    rw [dnum_app hQ, dnum_app (recF_no (by decide)), dnum_app (recF_no (by decide)), dnum_app (recF_no (by decide))]
    by_cases h0 : s.quota = 0
    · rw [if_neg (fun k => k.2 h0), h0]; rfl
    · have h5 : 3 ≤ v := by
        by_cases h5 : v < 3
        · exact absurd (hk.q3 h5) h0
        · omega
      rw [if_pos ⟨h5, h0⟩, dnum_cons, if_pos (by rfl)]
      exact m4
/-- whatever is a catalogue, the document reads as it -/
theorem IsKat.dread {v : Int} {b : List UInt8} {s : KV} {more : List (List FV)} {top : List FV} (h : IsKat v b s more top) {L : List FV} (hL : L.map FV.s = (ttrow b).1.map FV.s) : Go.Proofs.YtiildgoaiookhaaGreat.dread v L = s.rk more := by
  have hk := kmay_parts h.may
  obtain ⟨h1, h2⟩ := h.row_
  obtain ⟨b1, b2, b3⟩ := bad_parts h.bad
  have ht := top_ver hk.v1 hk.v3
  obtain ⟨f1, _⟩ := split_filter (l := stH v s more) (m := top) (k := topS v) (fun f hf => (stH_num hk.v1 hk.v3 f hf).2) b1
  obtain ⟨d1, d2, d3, d4⟩ := dread_nums h
  rw [s_dread (hL.trans h2)]
  unfold Go.Proofs.YtiildgoaiookhaaGreat.dread dzero
  rw [d1, d2, d3]
  have e7 : dnum ((stF v s more top).filter (loB (topS v))) 7 = s.quota := by rw [stF_eq, f1]; exact d4
  rw [e7]
  have ef : (stF v s more top).foldl (dstep v) ⟨s.ver, s.next, s.keep, 0, [], [], [], []⟩ = ⟨s.ver, s.next, s.keep, 0, s.ses, s.ops, s.sns.map NV.q, padM s.sns.length more⟩ := by
    unfold stF
    rw [List.foldl_append, List.foldl_append, List.foldl_append, List.foldl_append, List.foldl_append]
    rw [dfold_no (l := numF 1 [s.ver, s.next, s.keep]) (fun f hf => by have := numF_nums f hf; simp only [List.length_cons, List.length_nil] at this; omega)]
    rw [dread_ses hk s.ses _ (fun _ hx => hx), dread_ops hk s.ops _ (fun _ hx => hx), ← pairM_rows, dread_sns hk (fun x m => snpF v x m) (fun _ _ => rfl) _ _ h.pair]
    rw [dfold_no (l := if 3 ≤ v ∧ s.quota ≠ 0 then [tfv 7 0 s.quota.toNat []] else []) (fun f hf => by
      split at hf
      · simp only [List.mem_singleton] at hf; subst hf; right; simp [tfv]
      · simp at hf)]
    rw [dfold_no (l := top) (fun f hf => by
      unfold lowK at b1
      have := List.any_eq_false.1 b1 f hf
      simp only [decide_eq_true_eq] at this
      right; omega)]
    rw [pairM_q, pairM_more]
    simp
  rw [ef]
  rfl
end Go.Proofs.YtiildgoaiookhaaGreat
