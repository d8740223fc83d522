/- Words and walks that the last text of this claim stands on: LpP, LpS, LpH, ImA. No condition. -/
import Derived.Test.YtiildgoaiookhaaGreatB13
import Derived.Test.YtiildgoaiookhaaGreatB14
import Derived.Test.YtiildgoaiookhaaGreatB06
import Derived.Test.YtiildgoaiookhaaGreatB03
import Derived.BigGuardPart
import Derived.Test.YtiildgoaiookhaaGreatB08
/- The walk of letter.Put. -/
namespace Go.Proofs.YtiildgoaiookhaaGreat
open Go.RowKit

theorem numF_own {w : World} {B : Nat} {v : Value} {l : List Int} (h : w.ownsRow B 54 4 v (numF 1 l).length (rowOf (numF 1 l))) (hl : ∀ x ∈ l, 0 ≤ x ∧ x ≤ 4611686018427387904) : OwnR w B v (numF 1 l) :=
  ⟨h, fun f hf => by
    obtain ⟨i, hi, _, rfl⟩ := numF_mem l 1 f hf
    have := hl l[i] (List.getElem_mem _)
    exact ⟨World.ownsRow_nil _ _ _ _, by simp only [tfv, U64]; omega⟩⟩
theorem low_snoc (l : List FV) (j : Nat) (h : j < l.length) : lowB (l.take (j + 1)) = (lowB (l.take j) || decide (l[j].num ≤ 10)) := by
  unfold lowB
  rw [List.take_succ_eq_append_getElem h, List.any_append]
  simp only [List.any_cons, List.any_nil, Bool.or_false]
theorem low_all {l : List FV} (h : lowB l = false) : ∀ f ∈ l, 10 < f.num := by
  intro f hf
  have := List.any_eq_false.1 h f hf
  simpa using this
theorem top6 : topL (specL 6 1) = 10 := by decide
/-- the fields of a letter's entries -/
def many (l : List EV) : List FV := l.map fun y => tfv 10 2 0 (rput (entF y))
theorem many_take (l : List EV) (j : Nat) (h : j < l.length) : many (l.take (j + 1)) = many (l.take j) ++ [tfv 10 2 0 (rput (entF l[j]))] := by
  unfold many
  rw [List.take_succ_eq_append_getElem h, List.map_append]; rfl
theorem is_letN (w : World) (kind src dst term bin la lb lc z : Int) (t : TypeId) (k : Nat) (hk : k = w.heap.size) : Is (w.alloc (.cells #[.int .i64 kind, .int .i64 (src + 1), .int .i64 (dst + 1), .int .i64 term, .int .i64 bin, .int .i64 la, .int .i64 lb, .int .i64 lc, .int .i64 z] t)) (some ⟨k, 0, none⟩) 9 [kind, src + 1, dst + 1, term, bin, la, lb, lc, z] := is_lit w _ _ t 9 k rfl rfl hk
end Go.Proofs.YtiildgoaiookhaaGreat

/- The walks of bytes.Equal, slices.EqualFunc at entries, and letter.Same. (Printed by wip/tools/lpsame.py.) -/
namespace Go.Proofs.YtiildgoaiookhaaGreat
open Go.RowKit

set_option maxRecDepth 100000 in
set_option maxHeartbeats 400000 in
theorem bytes_Equal (A A' : Option Addr) (n n' c c' : Nat) (l m : List UInt8) (b : Bool) (hb : decide (l = m) = b) (w : World) (h1 : Bs w A n l) (h2 : Bs w A' n' m) :
    Calls Tryz.prog 17 #[.slice A n c, .slice A' n' c'] w fun e w' => e = .returned (.bool b) ∧ w = w' := by
  have s1 := run_str (P := Tryz.prog) (dst := 9) Tryz.underlying22 Tryz.underlying5 Tryz.underlying9 h1 c
  have s2 := run_str (P := Tryz.prog) (dst := 9) Tryz.underlying22 Tryz.underlying5 Tryz.underlying9 h2 c'
  have he : ((bstr l).toList == (bstr m).toList) = b := by
    rw [bstr_list, bstr_list, ← hb]
    by_cases e : l = m
    · subst e; simp
    · rw [decide_eq_false e]; simpa using e
  clear hb h1 h2
  generalize bstr l = p at *
  generalize bstr m = q at *
  go_enter Tryz.func17, Tryz.ntmps17
  go_wp2
  go_ret
  exact ⟨rfl, rfl⟩
end Go.Proofs.YtiildgoaiookhaaGreat

/- The head of layer 16's laws; a letter's bytes tell the letter. -/
namespace Go.Proofs.YtiildgoaiookhaaGreat
open Go.RowKit

/-! a letter's bytes tell the letter -/
theorem rput_inj {l m : List FV} (hl : fmay l = 0) (hm : fmay m = 0) (kl : ∀ f ∈ l, U64 f.n ∧ f.len = f.b.length) (km : ∀ f ∈ m, U64 f.n ∧ f.len = f.b.length) (h : rput l = rput m) : l.map FV.s = m.map FV.s := by
  have h1 := (trow_put l none none 0 hl kl rfl).2
  have h2 := (trow_put m none none 0 hm km rfl).2
  rw [h] at h1
  rw [← h1, h2]
theorem numF_k (l : List Int) (k : Nat) (h : ∀ x ∈ l, 0 ≤ x ∧ x ≤ 4611686018427387904) : ∀ f ∈ numF k l, U64 f.n ∧ f.len = f.b.length := by
  intro f hf
  obtain ⟨i, hi, _, rfl⟩ := numF_mem l k f hf
  have := h l[i] (List.getElem_mem _)
  exact ⟨by simp only [tfv, U64]; omega, rfl⟩
theorem entF_k {y : EV} (h : EntOk y) : ∀ f ∈ entF y, U64 f.n ∧ f.len = f.b.length := by
  intro f hf
  rcases List.mem_append.1 hf with hf | hf
  · exact numF_k _ 1 (by intro x hx; simp at hx; subst hx; exact ⟨by have := h.t1; omega, by have := h.t2; omega⟩) f hf
  · split at hf
    · simp at hf
    · simp only [List.mem_singleton] at hf
      subst hf; exact ⟨show (0 : Nat) < 18446744073709551616 by decide, rfl⟩
theorem letF_k {x : LV} (h : mayB x = true) : ∀ f ∈ letF x, U64 f.n ∧ f.len = f.b.length := by
  intro f hf
  rcases List.mem_append.1 hf with hf | hf
  · exact numF_k _ 1 (letN_bd h) f hf
  · obtain ⟨y, _, rfl⟩ := List.mem_map.1 hf
    exact ⟨show (0 : Nat) < 18446744073709551616 by decide, rfl⟩
/-- the value of the field k, nought without it -/
def getN (k : Nat) (l : List FV) : Int := match l.find? (fun f => f.num == (k : Int)) with | some f => f.n | none => 0
theorem getN_s {l m : List FV} (k : Nat) (h : l.map FV.s = m.map FV.s) : getN k l = getN k m := by
  induction l generalizing m with
  | nil => cases m with | nil => rfl | cons b r => simp at h
  | cons a l ih =>
    cases m with
    | nil => simp at h
    | cons b r =>
      simp only [List.map_cons, List.cons.injEq] at h
      have e := h.1
      simp only [FV.s, Prod.mk.injEq] at e
      have := ih h.2
      unfold getN at this ⊢
      rw [List.find?_cons, List.find?_cons, e.1]
      by_cases hk : (b.num == (k : Int)) = true
      · rw [hk]; simp only [e.2.2.1]
      · rw [Bool.not_eq_true] at hk; rw [hk]; exact this
theorem getN_pre (k : Nat) (l : List Int) (i : Nat) (m : List FV) (h : ∀ f ∈ m, f.num ≠ k) (h1 : i ≤ k) (h2 : k < i + l.length) (hl : ∀ x ∈ l, 0 ≤ x) : getN k (numF i l ++ m) = l[k - i]'(by omega) := by
  induction l generalizing i with
  | nil => simp at h2; omega
  | cons a r ih =>
    have ha := hl a (by simp)
    by_cases hki : k = i
    · subst hki
      simp only [Nat.sub_self, List.getElem_cons_zero]
      rw [numF_cons]
      by_cases h0 : a = 0
      · rw [if_pos h0, List.nil_append]
        unfold getN
        rw [List.find?_eq_none.2]
        · exact h0.symm
        · intro f hf
          rcases List.mem_append.1 hf with hf | hf
          · obtain ⟨j, _, _, rfl⟩ := numF_mem r (k + 1) f hf
            simp [tfv]; omega
          · simpa using h f hf
      · rw [if_neg h0]
        unfold getN
        simp [tfv]; omega
    · have e := ih (i + 1) (by omega) (by simp at h2; omega) (fun x hx => hl x (by simp [hx]))
      have hidx : k - i = (k - (i + 1)) + 1 := by omega
      have hg : (a :: r)[k - i]'(by omega) = r[k - (i + 1)]'(by simp at h2; omega) := by simp [hidx]
      rw [hg, ← e, numF_cons]
      by_cases h0 : a = 0
      · rw [if_pos h0, List.nil_append]
      · rw [if_neg h0]
        unfold getN
        rw [List.append_assoc, List.singleton_append, List.find?_cons]
        have : ((tfv i 0 a.toNat []).num == (k : Int)) = false := by simp [tfv]; omega
        rw [this]
/-- the bytes of the fields k -/
def getB (k : Nat) (l : List FV) : List (List UInt8) := (l.filter fun f => f.num == (k : Int)).map (·.b)
theorem getB_s {l m : List FV} (k : Nat) (h : l.map FV.s = m.map FV.s) : getB k l = getB k m := by
  induction l generalizing m with
  | nil => cases m with | nil => rfl | cons b r => simp at h
  | cons a l ih =>
    cases m with
    | nil => simp at h
    | cons b r =>
      simp only [List.map_cons, List.cons.injEq] at h
      have e := h.1
      simp only [FV.s, Prod.mk.injEq] at e
      have := ih h.2
      unfold getB at this ⊢
      rw [List.filter_cons, List.filter_cons, e.1]
      split
      · rw [List.map_cons, List.map_cons, this, e.2.2.2.2]
      · exact this
theorem getB_app (k : Nat) (l m : List FV) : getB k (l ++ m) = getB k l ++ getB k m := by simp [getB]
theorem getB_num (k : Nat) (l : List Int) (i : Nat) (h : i + l.length ≤ k) : getB k (numF i l) = [] := by
  unfold getB
  rw [List.map_eq_nil_iff, List.filter_eq_nil_iff]
  intro f hf
  obtain ⟨j, hj, _, rfl⟩ := numF_mem l i f hf
  simp [tfv]; omega
theorem getB_many (k : Nat) (l : List (List UInt8)) : getB k (l.map fun b => tfv k 2 0 b) = l := by
  induction l with
  | nil => rfl
  | cons a r ih =>
    unfold getB at ih ⊢
    rw [List.map_cons, List.filter_cons]
    simp only [tfv, beq_self_eq_true, if_true, List.map_cons] at ih ⊢
    rw [ih]
theorem entF_get {y : EV} (h : EntOk y) : getN 1 (entF y) = y.term ∧ getB 2 (entF y) = (if y.b = [] then [] else [y.b]) := by
  constructor
  · unfold entF
    rw [getN_pre 1 [y.term] 1 _ ?_ (by omega) (by simp) (by intro x hx; simp at hx; subst hx; have := h.t1; omega)]
    · rfl
    · intro f hf
      split at hf
      · simp at hf
      · simp only [List.mem_singleton] at hf; subst hf; simp [tfv]
  · unfold entF
    rw [getB_app, getB_num 2 [y.term] 1 (by simp)]
    split
    · rfl
    · exact getB_many 2 [y.b]
theorem ent_inj {y z : EV} (hy : EntOk y) (hz : EntOk z) (h : rput (entF y) = rput (entF z)) : y.p = z.p := by
  have hs := rput_inj (ent_may hy).1 (ent_may hz).1 (entF_k hy) (entF_k hz) h
  obtain ⟨y1, y2⟩ := entF_get hy
  obtain ⟨z1, z2⟩ := entF_get hz
  rw [getN_s 1 hs, z1] at y1
  rw [getB_s 2 hs, z2] at y2
  unfold EV.p
  rw [y1]
  by_cases e1 : y.b = [] <;> by_cases e2 : z.b = [] <;> simp [e1, e2] at y2 ⊢
  exact y2.symm
theorem ents_inj : ∀ {l m : List EV}, (∀ y ∈ l, EntOk y) → (∀ y ∈ m, EntOk y) → (l.map fun y => rput (entF y)) = (m.map fun y => rput (entF y)) → l.map EV.p = m.map EV.p
  | [], [], _, _, _ => rfl
  | [], _ :: _, _, _, h => by simp at h
  | _ :: _, [], _, _, h => by simp at h
  | a :: l, b :: m, h1, h2, h => by
    simp only [List.map_cons, List.cons.injEq] at h ⊢
    exact ⟨ent_inj (h1 a (by simp)) (h2 b (by simp)) h.1, ents_inj (fun y hy => h1 y (by simp [hy])) (fun y hy => h2 y (by simp [hy])) h.2⟩
/-- what the fields of a letter say, whatever stands behind -/
theorem letF_get {x : LV} (h : mayB x = true) {rest : List FV} (hr : ∀ f ∈ rest, 10 < f.num) (k : Nat) (h1 : 1 ≤ k) (h9 : k ≤ 9) : getN k (letF x ++ rest) = (letN x)[k - 1]'(by simp [letN]; omega) := by
  unfold letF
  rw [List.append_assoc]
  refine getN_pre k (letN x) 1 _ ?_ h1 (by simp [letN]; omega) (fun n hn => (letN_bd h n hn).1)
  intro f hf
  rcases List.mem_append.1 hf with hf | hf
  · obtain ⟨y, _, rfl⟩ := List.mem_map.1 hf
    simp [tfv]; omega
  · have := hr f hf; omega
theorem letF_getB (x : LV) {rest : List FV} (hr : ∀ f ∈ rest, 10 < f.num) : getB 10 (letF x ++ rest) = x.l.map fun y => rput (entF y) := by
  rw [letF_eq, getB_app, getB_app, getB_num 10 (letN x) 1 (by simp [letN]), getB_many]
  have : getB 10 rest = [] := by
    unfold getB
    rw [List.map_eq_nil_iff, List.filter_eq_nil_iff]
    intro f hf
    have := hr f hf
    simp; omega
  rw [this]; simp
theorem let_num {x y : LV} (h : letN x = letN y) : x.kind = y.kind ∧ x.src = y.src ∧ x.dst = y.dst ∧ x.term = y.term ∧ x.bin = y.bin ∧ x.a = y.a ∧ x.b = y.b ∧ x.c = y.c ∧ x.ok = y.ok := by
  simp only [letN, List.cons.injEq, and_true] at h
  obtain ⟨h1, h2, h3, h4, h5, h6, h7, h8, h9⟩ := h
  refine ⟨h1, by omega, by omega, h4, h5, h6, h7, h8, ?_⟩
  revert h9
  cases x.ok <;> cases y.ok <;> simp
theorem get_num {x y : LV} (hx : mayB x = true) (hy : mayB y = true) {r q : List FV} (hr : ∀ f ∈ r, 10 < f.num) (hq : ∀ f ∈ q, 10 < f.num) (hs : (letF x ++ r).map FV.s = (letF y ++ q).map FV.s) : letN x = letN y := by
  refine List.ext_getElem rfl fun i h1 h2 => ?_
  have hi : i < 9 := h1
  have e1 := letF_get hx hr (i + 1) (by omega) (by omega)
  have e2 := letF_get hy hq (i + 1) (by omega) (by omega)
  rw [getN_s _ hs, e2] at e1
  simpa using e1.symm
/-- the bytes of a letter, with what stands behind, tell it -/
theorem let_inj {x y : LV} (hx : mayB x = true) (hy : mayB y = true) (bx : ∀ z ∈ x.l, z.b.length = z.len) (by_ : ∀ z ∈ y.l, z.b.length = z.len) {r q : List FV} (hr : ∀ f ∈ r, 10 < f.num) (hq : ∀ f ∈ q, 10 < f.num)
    (hs : (letF x ++ r).map FV.s = (letF y ++ q).map FV.s) : x.p = y.p := by
  obtain ⟨h1, h2, h3, h4, h5, h6, h7, h8, h9⟩ := let_num (get_num hx hy hr hq hs)
  obtain ⟨_, _, _, _, _, _, _, _, _, _, ex⟩ := mayB_parts hx
  obtain ⟨_, _, _, _, _, _, _, _, _, _, ey⟩ := mayB_parts hy
  have hb := getB_s 10 hs
  rw [letF_getB x hr, letF_getB y hq] at hb
  have := ents_inj (entsB_ok ex bx) (entsB_ok ey by_) hb
  unfold LV.p
  rw [h1, h2, h3, h4, h5, h6, h7, h8, h9, this]
/-- letters that are the same have the same fields -/
theorem let_same {x y : LV} (h : x.p = y.p) : letF x = letF y := by
  simp only [LV.p, Prod.mk.injEq] at h
  obtain ⟨⟨h1, h2, h3, h4, h5⟩, ⟨h6, h7, h8, h9⟩, h10⟩ := h
  unfold letF letN
  rw [h1, h2, h3, h4, h5, h6, h7, h8, h9]
  congr 1
  have e : ∀ l : List EV, (l.map fun y => tfv 10 2 0 (rput (entF y))) = (l.map EV.p).map fun p => tfv 10 2 0 (rput (numF 1 [p.1] ++ (if p.2 = [] then [] else [tfv 2 2 0 p.2]))) := by
    intro l; rw [List.map_map]; rfl
  rw [e, e, h10]
theorem lput_nil_eq {x y : LV} (hx : (lput x []).2 = 0) (hy : (lput y []).2 = 0) (bx : ∀ z ∈ x.l, z.b.length = z.len) (by_ : ∀ z ∈ y.l, z.b.length = z.len) : decide ((lput x []).1 = (lput y []).1) = letEq x y := by
  have p : ∀ {z : LV}, (lput z []).2 = 0 → mayB z = true ∧ fmay (letF z) = 0 ∧ (lput z []).1 = rput (letF z) := by
    intro z h
    unfold lput at h ⊢
    by_cases h1 : mayB z = false
    · rw [if_pos h1] at h; cases h
    · rw [if_neg h1, if_neg (by simp [lowB]), List.append_nil] at h ⊢
      by_cases h2 : fmay (letF z) = 0
      · rw [if_pos h2]; exact ⟨by simpa using h1, h2, rfl⟩
      · rw [if_neg h2] at h; exact absurd h h2
  obtain ⟨x1, x2, x3⟩ := p hx
  obtain ⟨y1, y2, y3⟩ := p hy
  rw [x3, y3, Bool.eq_iff_iff, decide_eq_true_eq, letEq_iff]
  constructor
  · intro h
    have hs := rput_inj x2 y2 (letF_k x1) (letF_k y1) h
    exact let_inj x1 y1 bx by_ (r := []) (q := []) (by simp) (by simp) (by simpa using hs)
  · intro h; rw [let_same h]
end Go.Proofs.YtiildgoaiookhaaGreat

/- The fields of a catalogue: plain. -/
namespace Go.Proofs.YtiildgoaiookhaaGreat
open Go.RowKit

/-- the fields of a client -/
def sesF (x : CV) : List FV := numF 1 [x.client, x.seq, x.code, x.n]
/-- the fields of an open backup -/
def opnF (x : OV) : List FV := numF 1 [x.set, x.client]
/-- the fields of a snapshot, without those of a later version -/
def snpH (ver : Int) (x : NV) : List FV :=
  numF 1 [x.id, x.set] ++ (tfv 3 2 0 (chput x.ch) :: ((if 2 ≤ ver ∧ x.held = true then [tfv 4 0 1 []] else []) ++ (if 3 ≤ ver ∧ x.tag ≠ ⟨#[]⟩ then [tfv 5 2 0 x.tag.data.toList] else [])))
def snpF (ver : Int) (x : NV) (more : List FV) : List FV := snpH ver x ++ more
/-- the fields of the snapshots, each with its list of later fields -/
def snpsF (ver : Int) (sns : List NV) (more : List (List FV)) : List (List FV) := sns.mapIdx fun i x => snpF ver x (more[i]?.getD [])
/-- fields of records -/
def recF (k : Nat) (rows : List (List FV)) : List FV := rows.map fun r => tfv k 2 0 (rput r)
/-- the fields of a catalogue -/
def stF (ver : Int) (s : KV) (more : List (List FV)) (top : List FV) : List FV :=
  numF 1 [s.ver, s.next, s.keep] ++ (recF 4 (s.ses.map sesF) ++ (recF 5 (s.ops.map opnF) ++ (recF 6 (snpsF ver s.sns more) ++ ((if 3 ≤ ver ∧ s.quota ≠ 0 then [tfv 7 0 s.quota.toNat []] else []) ++ top))))
/-- the first error of rows -/
def firstE : List (List FV) → Nat
  | [] => 0
  | r :: t => if fmay r = 0 then firstE t else fmay r
/-- has a row a field of a number up to k -/
def lowK (k : Nat) (l : List FV) : Bool := l.any fun f => decide (f.num ≤ k)
def topS (ver : Int) : Nat := topL (specL 5 ver)
def topN (ver : Int) : Nat := topL (specL 2 ver)
def badRest (ver : Int) (s : KV) (more : List (List FV)) (top : List FV) : Bool := (lowK (topS ver) top || decide (s.sns.length < more.length)) || more.any (lowK (topN ver))
/-- what image.Put says -/
def kput (ver : Int) (s : KV) (more : List (List FV)) (top : List FV) : List UInt8 × Nat :=
  if kmay s ver ≠ 0 then ([], kmay s ver) else if badRest ver s more top = true then ([], 6) else
  if firstE (snpsF ver s.sns more) ≠ 0 then ([], firstE (snpsF ver s.sns more)) else
  if fmay (stF ver s more top) = 0 then (rput (stF ver s more top), 0) else ([], fmay (stF ver s more top))

theorem lowK_all {k : Nat} {l : List FV} (h : lowK k l = false) : ∀ f ∈ l, (k : Int) < f.num := by
  intro f hf
  have := List.any_eq_false.1 h f hf
  simpa using this
theorem lowK_snoc (k : Nat) (l : List FV) (j : Nat) (h : j < l.length) : lowK k (l.take (j + 1)) = (lowK k (l.take j) || decide (l[j].num ≤ k)) := by
  unfold lowK
  rw [List.take_succ_eq_append_getElem h, List.any_append]
  simp only [List.any_cons, List.any_nil, Bool.or_false]
theorem top_ver {v : Int} (h1 : 1 ≤ v) (h3 : v ≤ 3) : (v = 1 ∧ topS v = 6 ∧ topN v = 3) ∨ (v = 2 ∧ topS v = 6 ∧ topN v = 4) ∨ (v = 3 ∧ topS v = 7 ∧ topN v = 5) := by
  have : v = 1 ∨ v = 2 ∨ v = 3 := by omega
  rcases this with rfl | rfl | rfl
  · exact .inl ⟨rfl, by decide, by decide⟩
  · exact .inr (.inl ⟨rfl, by decide, by decide⟩)
  · exact .inr (.inr ⟨rfl, by decide, by decide⟩)
theorem kmay_ver {s : KV} {v : Int} (h : kmay s v = 0) : 1 ≤ v ∧ v ≤ 3 := by
  unfold kmay at h
  by_cases h1 : inI v 1 3 = false
  · rw [if_pos h1] at h; cases h
  · exact inI_iff.1 (by simpa using h1)
theorem mapIdx_take {α β : Type} (g : Nat → α → β) (l : List α) (j : Nat) (h : j < l.length) : (l.take (j + 1)).mapIdx g = (l.take j).mapIdx g ++ [g j l[j]] := by
  rw [List.take_succ_eq_append_getElem h, List.mapIdx_append]
  simp [List.length_take, Nat.min_eq_left (Nat.le_of_lt h)]
theorem snpsF_take (ver : Int) (sns : List NV) (more : List (List FV)) (j : Nat) (h : j < sns.length) : snpsF ver (sns.take (j + 1)) more = snpsF ver (sns.take j) more ++ [snpF ver sns[j] (more[j]?.getD [])] := mapIdx_take _ _ _ h
theorem snpsF_len (ver : Int) (sns : List NV) (more : List (List FV)) : (snpsF ver sns more).length = sns.length := by simp [snpsF]
theorem snpsF_mem {ver : Int} {sns : List NV} {more : List (List FV)} {r : List FV} (h : r ∈ snpsF ver sns more) : ∃ i, ∃ h : i < sns.length, r = snpF ver sns[i] (more[i]?.getD []) := by
  unfold snpsF at h
  obtain ⟨i, hi, e⟩ := List.mem_iff_getElem.1 h
  simp only [List.length_mapIdx] at hi
  exact ⟨i, hi, by rw [← e]; simp⟩
theorem recF_app (k : Nat) (l m : List (List FV)) : recF k (l ++ m) = recF k l ++ recF k m := by simp [recF]
theorem recF_len (k : Nat) (l : List (List FV)) : (recF k l).length = l.length := by simp [recF]
theorem recF_mem {k : Nat} {l : List (List FV)} {f : FV} (h : f ∈ recF k l) : ∃ r ∈ l, f = tfv k 2 0 (rput r) := by
  obtain ⟨r, hr, e⟩ := List.mem_map.1 h
  exact ⟨r, hr, e.symm⟩
theorem firstE_snoc (l : List (List FV)) (r : List FV) : firstE (l ++ [r]) = if firstE l = 0 then fmay r else firstE l := by
  induction l with
  | nil => simp [firstE]; exact fun h => h.symm
  | cons a l ih =>
    have e : ∀ m, firstE (a :: m) = if fmay a = 0 then firstE m else fmay a := fun _ => rfl
    rw [List.cons_append, e, e]
    by_cases h : fmay a = 0
    · simp only [if_pos h, ih]
    · simp only [if_neg h]
theorem firstE_zero {l : List (List FV)} : firstE l = 0 ↔ ∀ r ∈ l, fmay r = 0 := by
  induction l with
  | nil => simp [firstE]
  | cons a l ih =>
    simp only [firstE, List.mem_cons, forall_eq_or_imp]
    by_cases h : fmay a = 0
    · rw [if_pos h, ih]; simp [h]
    · rw [if_neg h]; simp [h]

/-! records that may be -/
theorem num_may (l : List Int) (hl : l.length ≤ 100) (h : ∀ x ∈ l, 0 ≤ x ∧ x ≤ 4611686018427387904) : fmay (numF 1 l) = 0 ∧ (rput (numF 1 l)).length ≤ 12 * l.length := by
  have hs := numF_sum l 1 (by omega) (by omega) h
  have ha := numF_alone l 1 (by omega) (by omega)
  rw [rput_len]
  refine ⟨?_, hs⟩
  have hc := numF_chain l 1 none [] (by simp) (fun _ _ => trivial)
  rw [List.append_nil] at hc
  exact may_chain _ none 0 hc ha (by omega)
theorem num_ne (a : Int) (l : List Int) (ha : 1 ≤ a) : rput (numF 1 (a :: l)) ≠ [] := by
  intro e
  have h2 := congrArg List.length e
  rw [numF_cons, if_neg (by omega)] at h2
  rw [rput_app, List.length_append] at h2
  have h3 : (rput [tfv 1 0 a.toNat []]).length = (vput 8).length + (vput a.toNat).length := by simp [rput, fbytes, fput, tfv]
  have h4 := vsize_pos 8
  have h5 := vput_len 8
  simp only [List.length_nil] at h2
  omega
theorem risB_up {α : Type} {key : α → Int} {m : Int} : ∀ {l : List α} {a : Int}, risB key m a l = true → ∀ y ∈ l, a < key y ∧ key y ≤ m
  | [], _, _, y, hy => by simp at hy
  | x :: r, a, h, y, hy => by
    rw [risB_cons, Bool.and_eq_true, inI_iff] at h
    rcases List.mem_cons.1 hy with rfl | hy
    · omega
    · have := risB_up h.2 y hy; omega
theorem risB_count {α : Type} {key : α → Int} {m : Int} : ∀ {l : List α} {a : Int}, risB key m a l = true → a ≤ m → (l.length : Int) ≤ m - a
  | [], a, _, h => by simp; omega
  | x :: r, a, h, _ => by
    rw [risB_cons, Bool.and_eq_true, inI_iff] at h
    have := risB_count h.2 (by omega)
    rw [List.length_cons]; omega
theorem bytes_empty {s : ByteArray} (h : (s.size : Int) ≤ 0) : s = ⟨#[]⟩ := by
  have h0 : s.data.size = 0 := by have : s.size = s.data.size := rfl
                                  omega
  have e : s.data = #[] := Array.eq_empty_of_size_eq_zero h0
  rw [← e]
/-- what is known of a catalogue that may be -/
structure KMay (v : Int) (s : KV) : Prop where
  v1 : 1 ≤ v
  v3 : v ≤ 3
  ver : 1 ≤ s.ver ∧ s.ver ≤ 3
  next : 1 ≤ s.next ∧ s.next ≤ 1048576
  keep : 0 ≤ s.keep ∧ s.keep ≤ 8
  quota : 0 ≤ s.quota ∧ s.quota ≤ 64
  q3 : v < 3 → s.quota = 0
  nses : s.ses.length ≤ 8
  ses : ∀ x ∈ s.ses, (1 ≤ x.client ∧ x.client ≤ 8) ∧ (0 ≤ x.seq ∧ x.seq ≤ 1048576) ∧ (0 ≤ x.code ∧ x.code ≤ 99) ∧ (0 ≤ x.n ∧ x.n ≤ 1048576)
  nops : s.ops.length ≤ 8
  ops : ∀ x ∈ s.ops, (1 ≤ x.set ∧ x.set ≤ 8) ∧ (1 ≤ x.client ∧ x.client ≤ 8)
  nsns : s.sns.length ≤ 16
  sns : ∀ x ∈ s.sns, (1 ≤ x.id ∧ x.id ≤ 1048575) ∧ (1 ≤ x.set ∧ x.set ≤ 8) ∧ rowChB x.ch = true ∧ (x.held = true → 2 ≤ v) ∧ x.tag.size ≤ 16 ∧ (v < 3 → x.tag = ⟨#[]⟩)
theorem kmay_parts {s : KV} {v : Int} (h : kmay s v = 0) : KMay v s := by
  obtain ⟨h1, h3⟩ := kmay_ver h
  obtain ⟨a, b, c, d⟩ := (kmay_ok h1 h3).1 h
  obtain ⟨a1, a2, a3, a4⟩ := numB_iff.1 a
  obtain ⟨d1, d2, d3⟩ := snsB_iff.1 d
  unfold sesOk at b
  unfold opsOk at c
  simp only [Bool.and_eq_true, List.all_eq_true] at b c
  have q64 : quotaLim v ≤ 64 := by unfold quotaLim; split <;> omega
  have t16 : tagLim v ≤ 16 := by unfold tagLim; split <;> omega
  refine ⟨h1, h3, a1, a2, a3, ⟨a4.1, by omega⟩, fun h => ?_, ?_, fun x hx => ?_, ?_, fun x hx => ?_, d1, fun x hx => ?_⟩
  · have : quotaLim v = 0 := by unfold quotaLim; rw [if_pos h]
    omega
  · have := risB_count b.1 (by omega); omega
  · have g := risB_up b.1 x hx
    have k := b.2 x hx
    unfold sesB at k
    simp only [Bool.and_eq_true, inI_iff] at k
    exact ⟨by omega, k.1, k.2.1, k.2.2⟩
  · have := risB_count c.1 (by omega); omega
  · have g := risB_up c.1 x hx
    have k := c.2 x hx
    unfold opnB at k
    simp only [inI_iff] at k
    exact ⟨by omega, k⟩
  · have g := risB_up d2 x hx
    obtain ⟨k1, k2, k3, k4⟩ := snB_ok.1 (d3 x hx)
    refine ⟨by omega, inI_iff.1 k2, k1, k3, by omega, fun hv => ?_⟩
    have : tagLim v = 0 := by unfold tagLim; rw [if_pos hv]
    exact bytes_empty (by omega)
theorem ses_nums {v : Int} {s : KV} (h : KMay v s) {x : CV} (hx : x ∈ s.ses) : ∀ n ∈ [x.client, x.seq, x.code, x.n], 0 ≤ n ∧ n ≤ 4611686018427387904 := by
  have := h.ses x hx
  intro n hn
  simp only [List.mem_cons, List.not_mem_nil, or_false] at hn
  rcases hn with rfl | rfl | rfl | rfl <;> omega
theorem opn_nums {v : Int} {s : KV} (h : KMay v s) {x : OV} (hx : x ∈ s.ops) : ∀ n ∈ [x.set, x.client], 0 ≤ n ∧ n ≤ 4611686018427387904 := by
  have := h.ops x hx
  intro n hn
  simp only [List.mem_cons, List.not_mem_nil, or_false] at hn
  rcases hn with rfl | rfl <;> omega
theorem snp_nums {v : Int} {s : KV} (h : KMay v s) {x : NV} (hx : x ∈ s.sns) : ∀ n ∈ [x.id, x.set], 0 ≤ n ∧ n ≤ 4611686018427387904 := by
  have := h.sns x hx
  intro n hn
  simp only [List.mem_cons, List.not_mem_nil, or_false] at hn
  rcases hn with rfl | rfl <;> omega
theorem st_nums {v : Int} {s : KV} (h : KMay v s) : ∀ n ∈ [s.ver, s.next, s.keep], 0 ≤ n ∧ n ≤ 4611686018427387904 := by
  have h1 := h.ver
  have h2 := h.next
  have h3 := h.keep
  intro n hn
  simp only [List.mem_cons, List.not_mem_nil, or_false] at hn
  rcases hn with rfl | rfl | rfl <;> omega
theorem ses_may {v : Int} {s : KV} (h : KMay v s) {x : CV} (hx : x ∈ s.ses) : fmay (sesF x) = 0 ∧ (rput (sesF x)).length ≤ 48 ∧ rput (sesF x) ≠ [] := by
  obtain ⟨a, b⟩ := num_may [x.client, x.seq, x.code, x.n] (by simp) (ses_nums h hx)
  exact ⟨a, b, num_ne _ _ (h.ses x hx).1.1⟩
theorem opn_may {v : Int} {s : KV} (h : KMay v s) {x : OV} (hx : x ∈ s.ops) : fmay (opnF x) = 0 ∧ (rput (opnF x)).length ≤ 24 ∧ rput (opnF x) ≠ [] := by
  obtain ⟨a, b⟩ := num_may [x.set, x.client] (by simp) (opn_nums h hx)
  exact ⟨a, b, num_ne _ _ (h.ops x hx).1.1⟩
theorem snp_ne {v : Int} {s : KV} (h : KMay v s) (ver : Int) {x : NV} (hx : x ∈ s.sns) (more : List FV) : rput (snpF ver x more) ≠ [] := by
  have h1 := num_ne x.id [x.set] (h.sns x hx).1.1
  unfold snpF snpH
  rw [rput_app, rput_app]
  intro e
  exact h1 (List.append_eq_nil_iff.1 (List.append_eq_nil_iff.1 e).1).1
theorem chput_ne {l : List Int} (h : rowChB l = true) : chput l ≠ [] := by
  unfold rowChB at h
  simp only [Bool.and_eq_true, decide_eq_true_eq] at h
  match l, h.1.1 with
  | a :: r, _ =>
    intro e
    have := congrArg List.length e
    unfold chput at this
    simp only [List.map_cons, List.flatten_cons, List.length_append, vput_len, List.length_nil] at this
    have := vsize_pos a.toNat
    omega
theorem chput_80 {l : List Int} (h : rowChB l = true) : (chput l).length ≤ 80 := by
  unfold rowChB at h
  simp only [Bool.and_eq_true, decide_eq_true_eq] at h
  have := chput_le (l := l) fun x hx => (upB_in h.2 x hx).2
  omega
theorem tag_len_ (s : ByteArray) : s.size = s.data.toList.length := (Array.length_toList (xs := s.data)).symm
/-- a snapshot's own fields may be a row -/
theorem snpH_may {v : Int} {s : KV} (h : KMay v s) (ver : Int) {x : NV} (hx : x ∈ s.sns) : fmay (snpH ver x) = 0 ∧ (rput (snpH ver x)).length ≤ 200 := by
  obtain ⟨p1, p2, p3, p4, p5, p6⟩ := h.sns x hx
  have hn := snp_nums h hx
  have hc := chput_80 p3
  have hs := numF_sum [x.id, x.set] 1 (by omega) (by simp) hn
  have ha := numF_alone [x.id, x.set] 1 (by omega) (by simp)
  have z3 := size_b (k := 3) (b := chput x.ch) (by omega) (by omega) (by omega)
  have z4 := size_n (k := 4) (n := 1) (by omega) (by omega) (by unfold U64; omega)
  have htl : x.tag.data.toList.length ≤ 16 := by have : x.tag.size = x.tag.data.toList.length := tag_len_ x.tag
                                                 omega
  have z5 := size_b (k := 5) (b := x.tag.data.toList) (by omega) (by omega) (by omega)
  simp only [List.length_cons, List.length_nil] at hs
  have key : fsum (snpH ver x) ≤ 200 := by
    unfold snpH
    rw [fsum_append]
    have e : ∀ (f : FV) l, fsum (f :: l) = fsize f + fsum l := by intro f l; simp [fsum]
    rw [e, fsum_append]
    have e4 : fsum (if 2 ≤ ver ∧ x.held = true then [tfv 4 0 1 []] else []) ≤ 12 := by
      split
      · rw [e]; simpa [fsum] using z4
      · simp [fsum]
    have e5 : fsum (if 3 ≤ ver ∧ x.tag ≠ ⟨#[]⟩ then [tfv 5 2 0 x.tag.data.toList] else []) ≤ 28 := by
      split
      · rw [e]; simp only [fsum, List.map_nil, List.sum_nil]; omega
      · simp [fsum]
    omega
  rw [rput_len]
  refine ⟨may_chain _ none 0 ?_ ?_ (by omega), key⟩
  · unfold snpH
    refine numF_chain _ 1 none _ (by simp) (fun q hq => ⟨falls_lt (fun a ha => by have := hq a ha; simp only [List.length_cons, List.length_nil] at this; simp only [tfv]; omega), ?_⟩)
    by_cases c4 : 2 ≤ ver ∧ x.held = true
    · rw [if_pos c4]
      refine ⟨falls_lt (fun a ha => by injection ha with ha; subst ha; simp [tfv]), ?_⟩
      by_cases c5 : 3 ≤ ver ∧ x.tag ≠ ⟨#[]⟩
      · rw [if_pos c5]; exact ⟨falls_lt (fun a ha => by injection ha with ha; subst ha; simp [tfv]), trivial⟩
      · rw [if_neg c5]; trivial
    · rw [if_neg c4]
      by_cases c5 : 3 ≤ ver ∧ x.tag ≠ ⟨#[]⟩
      · rw [if_pos c5]; exact ⟨falls_lt (fun a ha => by injection ha with ha; subst ha; simp [tfv]), trivial⟩
      · rw [if_neg c5]; trivial
  · intro f hf
    unfold snpH at hf
    rcases List.mem_append.1 hf with hf | hf
    · exact ha f hf
    · rcases List.mem_cons.1 hf with rfl | hf
      · exact ⟨alone_b (by omega) (by omega), by simp only [tfv]; omega⟩
      · rcases List.mem_append.1 hf with hf | hf
        · split at hf
          · simp only [List.mem_singleton] at hf; subst hf
            exact ⟨alone_n (by omega) (by omega), by simp [tfv]⟩
          · simp at hf
        · split at hf
          · simp only [List.mem_singleton] at hf; subst hf
            exact ⟨alone_b (by omega) (by omega), by simp only [tfv]; omega⟩
          · simp at hf
end Go.Proofs.YtiildgoaiookhaaGreat
