/- Words and walks that the last text of this claim stands on: Spec. No condition. -/
import Derived.Test.YtiildgoaiookhaaGreatB03
import Derived.Maps.Own
import Derived.Maps.OwnOps
/- A record's specs as values and in memory; a map's literal of such rows. No program in sight. -/
namespace Go.Proofs.YtiildgoaiookhaaGreat
open Go.RowKit Go.Deep

/-- a spec: number, kind, since which version, needed, many -/
structure SpV where
  num : Nat
  wire : Nat
  since : Nat
  need : Bool
  many : Bool
  deriving DecidableEq
def SpV.cells (f : SpV) : List Value := [.int .i64 f.num, .int .i64 f.wire, .int .i64 f.since, .bool f.need, .bool f.many]
theorem SpV.cells_one (f : SpV) : ∀ u ∈ f.cells, u.oneCell' = true := by
  intro u hu
  simp only [SpV.cells, List.mem_cons, List.not_mem_nil, or_false] at hu
  rcases hu with rfl | rfl | rfl | rfl | rfl <;> rfl
def specOf (l : List SpV) : List Value := (l.map SpV.cells).flatten
theorem specOf_len (l : List SpV) : (specOf l).length = l.length * 5 := by
  have := flatten_len (size := 5) (l.map SpV.cells) (by intro r hr; obtain ⟨f, _, rfl⟩ := List.mem_map.1 hr; rfl)
  simpa [specOf] using this
theorem specOf_get (l : List SpV) (i k : Nat) (hi : i < l.length) (hk : k < 5) : (specOf l)[i * 5 + k]? = (l[i]).cells[k]? := by
  have := flatten_get (size := 5) (l.map SpV.cells) (by intro r hr; obtain ⟨f, _, rfl⟩ := List.mem_map.1 hr; rfl) i k hk
  rw [specOf, this, List.getElem?_map, List.getElem?_eq_getElem hi]; rfl
theorem specOf_append (l m : List SpV) : specOf (l ++ m) = specOf l ++ specOf m := by simp [specOf]
theorem specOf_one (f : SpV) : specOf [f] = f.cells := by simp [specOf]
theorem specOf_cells (l : List SpV) : ∀ u ∈ specOf l, u.oneCell' = true := by
  intro u hu
  obtain ⟨r, hr, hu⟩ := List.mem_flatten.1 hu
  obtain ⟨f, _, rfl⟩ := List.mem_map.1 hr
  exact f.cells_one u hu
/-- The slice of n specs at A reads as l. -/
def Ss (w : World) (A : Option Addr) (n : Nat) (l : List SpV) : Prop := Rd w A n 5 (specOf l)
section
variable {w w' : World} {A : Option Addr} {n : Nat} {l : List SpV}
theorem Ss.len (h : Ss w A n l) : l.length = n := by
  have := h.1; rw [specOf_len] at this; omega
theorem Ss.ext (h : Ss w A n l) (he : Ext w w') : Ss w' A n l := Rd.ext h he
theorem Ss.nil_ (w : World) (A : Option Addr) : Ss w A 0 [] := Rd.nil_ w A 5
theorem Ss.at_ (h : Ss w A n l) {i : Nat} (hi : i < n) : ∃ b off, A = some ⟨b, off, none⟩ ∧
    w.cell? ⟨b, off + i * 5, none⟩ = some (.int .i64 (l[i]'(by rw [h.len]; exact hi)).num) ∧ w.cell? ⟨b, off + i * 5 + 1, none⟩ = some (.int .i64 (l[i]'(by rw [h.len]; exact hi)).wire) ∧
    w.cell? ⟨b, off + i * 5 + 2, none⟩ = some (.int .i64 (l[i]'(by rw [h.len]; exact hi)).since) ∧ w.cell? ⟨b, off + i * 5 + 3, none⟩ = some (.bool (l[i]'(by rw [h.len]; exact hi)).need) ∧
    w.cell? ⟨b, off + i * 5 + 4, none⟩ = some (.bool (l[i]'(by rw [h.len]; exact hi)).many) := by
  obtain ⟨b, off, e, _, hc⟩ := h.2 (by omega)
  have hl := h.len
  have g := fun k hk => specOf_get l i k (by omega) hk
  refine ⟨b, off, e, ?_, ?_, ?_, ?_, ?_⟩
  · have := hc (i * 5 + 0) _ (g 0 (by omega)); exact this
  · have := hc (i * 5 + 1) _ (g 1 (by omega)); exact this
  · have := hc (i * 5 + 2) _ (g 2 (by omega)); exact this
  · have := hc (i * 5 + 3) _ (g 3 (by omega)); exact this
  · have := hc (i * 5 + 4) _ (g 4 (by omega)); exact this
theorem Ss.of_own {base : Nat} {e : TypeId} {c : Nat} (h : w.ownsRow base e 5 (.slice A n c) n (specOf l)) : Ss w A n l := Rd.of_own h
end
theorem rd_at5 (w : World) (a b c d f : Value) (t : TypeId) (k : Nat) (hk : k = w.heap.size) : Rd (w.alloc (.cells #[a, b, c, d, f] t)) (some ⟨k, 0, none⟩) 1 5 [a, b, c, d, f] := hk ▸ Rd.block w #[a, b, c, d, f] t 1 rfl

theorem own_blk (w : World) (cs : Array Value) (t : TypeId) (size n : Nat) (hl : cs.size = n * size) (hn : n ≤ 1000) {B : Nat} (hB : B ≤ w.heap.size) (k : Nat) (hk : k = w.heap.size) : (w.alloc (.cells cs t)).ownsRow B t size (.slice (some ⟨k, 0, none⟩) n n) n cs.toList := by
  subst hk
  have h : Blk (w.alloc (.cells cs t)) w.heap.size t cs.toList := by
    have := Blk.new w t cs.toList
    simpa using this
  exact h.own hB (by simpa using hl) (by unfold maxLen; omega)

/-- all that a record of a kind may have, of whatever version -/
def nS (num since : Nat) : SpV := ⟨num, 0, since, false, false⟩
def nN (num : Nat) : SpV := ⟨num, 0, 1, true, false⟩
def bS (num since : Nat) : SpV := ⟨num, 2, since, false, false⟩
def bM (num : Nat) : SpV := ⟨num, 2, 1, false, true⟩
def forms : List (Int × List SpV) := [
  (1, [nN 1, nS 2 1, nS 3 1, nS 4 1, nS 5 1, nS 6 1, bS 7 1, bS 8 3]),
  (2, [nN 1, nN 2, ⟨3, 2, 1, true, false⟩, nS 4 2, bS 5 3]),
  (3, [nN 1, nN 2]),
  (4, [nN 1, nS 2 1, nS 3 1, nS 4 1]),
  (5, [nN 1, nN 2, nS 3 1, bM 4, bM 5, bM 6, nS 7 3]),
  (6, [nN 1, nN 2, nN 3, nN 4, nS 5 1, nS 6 1, nS 7 1, nS 8 1, nS 9 1, bM 10]),
  (7, [nN 1, bS 2 1])]
def look (ks : List (Int × List SpV)) (k : Int) : List SpV := match ks.find? (fun p => p.1 == k) with | some p => p.2 | none => []
def formOf (kind : Int) : List SpV := look forms kind
/-- a record's specs at a version -/
def specL (kind v : Int) : List SpV := if 1 ≤ v ∧ v ≤ 3 then (formOf kind).filter (fun s => decide ((s.since : Int) ≤ v)) else []
/-- the greatest number -/
def topL (l : List SpV) : Nat := l.foldl (fun a s => max a s.num) 0

theorem formOf_cases (kind : Int) : (¬ (1 ≤ kind ∧ kind ≤ 7) ∧ formOf kind = []) ∨ kind = 1 ∨ kind = 2 ∨ kind = 3 ∨ kind = 4 ∨ kind = 5 ∨ kind = 6 ∨ kind = 7 := by
  by_cases h : 1 ≤ kind ∧ kind ≤ 7
  · right; omega
  · left
    refine ⟨h, ?_⟩
    unfold formOf look forms
    rw [List.find?_eq_none.2]
    intro x hx
    simp only [List.mem_cons, List.not_mem_nil, or_false] at hx
    rcases hx with rfl | rfl | rfl | rfl | rfl | rfl | rfl <;> simp <;> omega
theorem formOf_len (kind : Int) : (formOf kind).length ≤ 10 := by
  rcases formOf_cases kind with ⟨_, h⟩ | rfl | rfl | rfl | rfl | rfl | rfl | rfl
  · rw [h]; decide
  all_goals decide

/-- two rows, element by element -/
inductive All2 {α β : Type} (R : α → β → Prop) : List α → List β → Prop
  | nil : All2 R [] []
  | cons {a : α} {b : β} {l : List α} {m : List β} (h : R a b) (t : All2 R l m) : All2 R (a :: l) (b :: m)

/-! the map -/
/-- an entry of the map: the row lies in a block of its own -/
def EntAt (w : World) (B : Nat) (ty : TypeId) (e : MapEntry) (kv : Int × List SpV) : Prop :=
  e.key = .int .i64 kv.1 ∧ ∃ g, B < g ∧ e.val = .slice (some ⟨g, 0, none⟩) kv.2.length kv.2.length ∧ Blk w g ty (specOf kv.2)
/-- Block w0's size is a map of ks, each row in a block of its own; nothing older has turned. -/
structure MapIs (ty : TypeId) (w0 w : World) (ks : List (Int × List SpV)) : Prop where
  map : ∃ (es : List MapEntry) (c : Nat), w.heap[w0.heap.size]? = some (.map es.toArray c) ∧ All2 (EntAt w w0.heap.size ty) es ks
  ext : Ext w0 w

theorem EntAt.keep {w w' : World} {B : Nat} {ty : TypeId} {e : MapEntry} {kv : Int × List SpV} (h : EntAt w B ty e kv) (hk : ∀ g, B < g → g < w.heap.size → w'.heap[g]? = w.heap[g]?) : EntAt w' B ty e kv := by
  obtain ⟨h1, g, h2, h3, h4⟩ := h
  exact ⟨h1, g, h2, h3, (hk g h2 h4.lt).trans h4⟩
theorem forall₂_imp {α β : Type} {R S : α → β → Prop} (h : ∀ a b, R a b → S a b) {l : List α} {m : List β} (hl : All2 R l m) : All2 S l m := by
  induction hl with
  | nil => exact .nil
  | cons h1 _ ih => exact .cons (h _ _ h1) ih
theorem forall₂_snoc {α β : Type} {R : α → β → Prop} {l : List α} {m : List β} (hl : All2 R l m) {a : α} {b : β} (h : R a b) : All2 R (l ++ [a]) (m ++ [b]) := by
  induction hl with
  | nil => exact .cons h .nil
  | cons h1 _ ih => exact .cons h1 ih
theorem MapIs.call {ty : TypeId} {w0 w w' : World} {ks : List (Int × List SpV)} (h : MapIs ty w0 w ks) (he : Ext w w') : MapIs ty w0 w' ks := by
  obtain ⟨⟨es, c, hb, hf⟩, hx⟩ := h
  exact ⟨⟨es, c, (he.block _ (Array.getElem?_eq_some_iff.1 hb).1).trans hb, forall₂_imp (fun _ _ h1 => h1.keep fun g _ hg => he.block g hg) hf⟩, hx.trans he⟩
theorem MapIs.made (ty : TypeId) (w0 : World) : MapIs ty w0 (w0.alloc (.map #[] 0)) [] :=
  ⟨⟨[], 0, (MapKept.heap_alloc w0 _).1, .nil⟩, (Ext.refl w0).alloc _⟩
theorem MapIs.lt {ty : TypeId} {w0 w : World} {ks : List (Int × List SpV)} (h : MapIs ty w0 w ks) : w0.heap.size < w.heap.size := by
  obtain ⟨⟨es, c, hb, _⟩, _⟩ := h
  exact (Array.getElem?_eq_some_iff.1 hb).1
theorem isKey_int (n : Int) : MapKept.IsKey (.int .i64) (.int .i64 n) := by simp [MapKept.IsKey]

theorem forall₂_keys {w : World} {B : Nat} {ty : TypeId} {es : List MapEntry} {ks : List (Int × List SpV)} (h : All2 (EntAt w B ty) es ks) : ∀ x ∈ es, ∃ kv ∈ ks, EntAt w B ty x kv := by
  induction h with
  | nil => simp
  | cons h1 _ ih =>
    intro x hx
    rcases List.mem_cons.1 hx with rfl | hx
    · exact ⟨_, List.mem_cons_self .., h1⟩
    · obtain ⟨kv, hkv, h2⟩ := ih x hx
      exact ⟨kv, List.mem_cons_of_mem _ hkv, h2⟩

/-- a new row, laid and put under a new key -/
theorem MapIs.insert {P : Program} {t k e ty : TypeId} (ht : P.underlying t = some (.map k e)) (hk : P.underlying k = some (.int .i64)) {w0 w : World} {ks : List (Int × List SpV)} (h : MapIs ty w0 w ks)
    (key : Int) (row : List SpV) (cs : Array Value) (hcs : cs.toList = specOf row) (hnew : ∀ p ∈ ks, p.1 ≠ key) (n : Nat) (hn : n = row.length) :
    ∃ w', (Instr.mapUpdate t (.map (some w0.heap.size)) (.int .i64 key) (.slice (some ⟨w.heap.size, 0, none⟩) n n)).run P (w.alloc (.cells cs ty)) = .ok () w' ∧ MapIs ty w0 w' (ks ++ [(key, row)]) := by
  subst hn
  have hlt := h.lt
  obtain ⟨⟨es, c, hb, hf⟩, hx⟩ := (h.call ((Ext.refl w).alloc (.cells cs ty)))
  have hks : ∀ x ∈ es, MapKept.IsKey (.int .i64) x.key := by
    intro x hx
    obtain ⟨kv, _, h1, _⟩ := forall₂_keys hf x hx
    rw [h1]; exact isKey_int _
  have hno : ∀ x ∈ es, x.key ≠ .int .i64 key := by
    intro x hx
    obtain ⟨kv, hkv, h1, _⟩ := forall₂_keys hf x hx
    rw [h1]
    intro e
    injection e with _ e
    exact hnew kv hkv e
  have hfind : Instr.findNow (.int .i64) (.int .i64 key) es 0 = some none := by
    rcases MapKept.findNow_spec (isKey_int key) es 0 hks with ⟨h1, _⟩ | ⟨j, e0, _, h2, h3⟩
    · exact h1
    · exact absurd h3 (hno e0 (List.mem_of_getElem? h2))
  refine ⟨{ (w.alloc (.cells cs ty)) with heap := (w.alloc (.cells cs ty)).heap.setIfInBounds w0.heap.size (.map (es.toArray.push ⟨.int .i64 key, .slice (some ⟨w.heap.size, 0, none⟩) row.length row.length, c⟩) (c + 1)) }, ?_, ?_⟩
  · simp only [Instr.mapUpdate, Sem.run_bind, run_underlying ht, MapKept.run_getObj_map hb, MapKept.run_checkKey hk (isKey_int key), MapKept.run_findKey hk hfind, MapKept.run_setObj_map _ hb, Result.andThen]
  · obtain ⟨hs1, hs2⟩ := MapKept.heap_set (o' := .map (es.toArray.push ⟨.int .i64 key, .slice (some ⟨w.heap.size, 0, none⟩) row.length row.length, c⟩) (c + 1)) hb
    refine ⟨⟨es ++ [⟨.int .i64 key, .slice (some ⟨w.heap.size, 0, none⟩) row.length row.length, c⟩], c + 1, ?_, ?_⟩, ?_⟩
    · simpa using hs1
    · refine forall₂_snoc (forall₂_imp (fun _ _ h1 => h1.keep fun g hg _ => hs2 g (by omega)) hf) ⟨rfl, w.heap.size, hlt, rfl, ?_⟩
      have hB := Blk.new w ty cs.toList
      rw [Array.toArray_toList, hcs] at hB
      exact (hs2 w.heap.size (by omega)).trans hB
    · refine ⟨hx.os, hx.tape, hx.output, ?_, ?_⟩
      · have := hx.size; simpa using this
      · intro b hb'
        exact (hs2 b (by omega)).trans (hx.block b hb')

theorem wpList_insert {P : Program} {t k e ty : TypeId} (ht : P.underlying t = some (.map k e)) (hk : P.underlying k = some (.int .i64)) {w0 w : World} {ks : List (Int × List SpV)} (h : MapIs ty w0 w ks)
    (key : Int) (row : List SpV) (cs : Array Value) (hcs : cs.toList = specOf row) (hnew : ∀ p ∈ ks, p.1 ≠ key) (n : Nat) (hn : n = row.length)
    {ops : Array Oper} {rest : List Oper} {o : Oper} {a : Act} {Q : Exit → Act → World → Prop} (hg : o.guard = none) (m x v : Operand) (hop : o.op = Op.insert t m x v)
    (hm : a.eval m = .map (some w0.heap.size)) (hx : a.eval x = .int .i64 key) (hv : a.eval v = .slice (some ⟨w.heap.size, 0, none⟩) n n)
    (hK : ∀ w', MapIs ty w0 w' (ks ++ [(key, row)]) → wpList P ops Q rest (a.put o.dst undef) w') : wpList P ops Q (o :: rest) a (w.alloc (.cells cs ty)) := by
  refine wpList_plain hg fun K' hK' => ?_
  obtain ⟨w', hrun, r1⟩ := h.insert ht hk key row cs hcs hnew n hn
  unfold Oper.wp
  simp [execOp, hop, hm, hx, hv, hrun, Result.andThen]
  exact hK' _ _ (hK w' r1)

theorem forall₂_find {w : World} {B : Nat} {ty : TypeId} (key : Int) {es : List MapEntry} {ks : List (Int × List SpV)} (h : All2 (EntAt w B ty) es ks) (i : Nat) :
    (Instr.findNow (.int .i64) (.int .i64 key) es i = some none ∧ ks.find? (fun p => p.1 == key) = none) ∨
    ∃ j e kv, Instr.findNow (.int .i64) (.int .i64 key) es i = some (some (j, e.val)) ∧ ks.find? (fun p => p.1 == key) = some kv ∧ EntAt w B ty e kv := by
  induction h generalizing i with
  | nil => exact .inl ⟨rfl, rfl⟩
  | @cons e kv es ks h1 _ ih =>
    have hk := h1.1
    by_cases hkey : key = kv.1
    · right
      refine ⟨i, e, kv, ?_, by simp [hkey], h1⟩
      simp [Instr.findNow, hk, Instr.sameNow, hkey]
    · have e1 : (key == kv.1) = false := by simpa using hkey
      have e2 : (kv.1 == key) = false := by simpa using (fun e => hkey e.symm)
      rcases ih (i + 1) with ⟨h2, h3⟩ | ⟨j, e', kv', h2, h3, h4⟩
      · left
        exact ⟨by simp [Instr.findNow, hk, Instr.sameNow, e1, h2], by simp [e2, h3]⟩
      · right
        exact ⟨j, e', kv', by simp [Instr.findNow, hk, Instr.sameNow, e1, h2], by simp [e2, h3], h4⟩

/-- the row under a key, nil where there is none -/
theorem MapIs.lookup {P : Program} {t k e ty : TypeId} (ht : P.underlying t = some (.map k e)) (hk : P.underlying k = some (.int .i64)) {w0 w : World} (hz : (zeroValue e).run P w = .ok (.slice none 0 0) w) {ks : List (Int × List SpV)} (h : MapIs ty w0 w ks) (hlen : ∀ p ∈ ks, p.2.length ≤ 1000) (key : Int) :
    ∃ v, (Instr.lookup t (.map (some w0.heap.size)) (.int .i64 key) false).run P w = .ok v w ∧ w.ownsRow w0.heap.size ty 5 v (look ks key).length (specOf (look ks key)) := by
  obtain ⟨⟨es, c, hb, hf⟩, hx⟩ := h
  rcases forall₂_find key hf 0 with ⟨h2, h3⟩ | ⟨j, e0, kv, h2, h3, h4, g, h5, h6, h7⟩
  · refine ⟨.slice none 0 0, ?_, ?_⟩
    · simp [Instr.lookup, run_underlying ht, MapKept.run_getObj_map hb, MapKept.run_checkKey hk (isKey_int key), MapKept.run_findKey hk h2, hz, Result.andThen]
    · rw [show look ks key = [] by unfold look; rw [h3]]
      exact World.ownsRow_nil _ _ _ _
  · refine ⟨e0.val, ?_, ?_⟩
    · simp [Instr.lookup, run_underlying ht, MapKept.run_getObj_map hb, MapKept.run_checkKey hk (isKey_int key), MapKept.run_findKey hk h2, Result.andThen]
    · rw [show look ks key = kv.2 by unfold look; rw [h3], h6]
      have := hlen kv (List.mem_of_find?_eq_some h3)
      exact h7.own (by omega) (by rw [specOf_len]) (by unfold maxLen; omega)
theorem wpList_look {P : Program} {t k e ty : TypeId} (ht : P.underlying t = some (.map k e)) (hk : P.underlying k = some (.int .i64)) {w0 w : World} (hz : ∀ w, (zeroValue e).run P w = .ok (.slice none 0 0) w) {ks : List (Int × List SpV)} (h : MapIs ty w0 w ks) (hlen : ∀ p ∈ ks, p.2.length ≤ 1000) (key : Int)
    {ops : Array Oper} {rest : List Oper} {o : Oper} {a : Act} {Q : Exit → Act → World → Prop} (hg : o.guard = none) (m x : Operand) (hop : o.op = Op.lookup t m x false)
    (hm : a.eval m = .map (some w0.heap.size)) (hx : a.eval x = .int .i64 key)
    (hK : ∀ v, w.ownsRow w0.heap.size ty 5 v (look ks key).length (specOf (look ks key)) → wpList P ops Q rest (a.put o.dst v) w) : wpList P ops Q (o :: rest) a w := by
  refine wpList_plain hg fun K' hK' => ?_
  obtain ⟨v, hrun, r1⟩ := h.lookup ht hk (hz w) hlen key
  unfold Oper.wp
  simp [execOp, hop, hm, hx, hrun, Result.andThen]
  exact hK' _ _ (hK v r1)
theorem wpList_makeMap {P : Program} {t : TypeId} {ops : Array Oper} {rest : List Oper} {o : Oper} {a : Act} {w : World} {Q : Exit → Act → World → Prop} (hg : o.guard = none) (hop : o.op = Op.makeMap t none)
    (h : ∀ ops' R, R = rest → wpList P ops' Q R (a.put o.dst (.map (some w.heap.size))) (w.alloc (.map #[] 0))) : wpList P ops Q (o :: rest) a w := by
  refine wpList_plain hg fun K' hK' => ?_
  unfold Oper.wp
  simp [execOp, hop, run_makeMap, Result.andThen]
  exact hK' _ _ (h ops rest rfl)
/-- the operations behind the next n are put out of sight -/
theorem wpList_hide {P : Program} {ops : Array Oper} {l : List Oper} {a : Act} {w : World} {Q : Exit → Act → World → Prop} (n : Nat) (h : ∀ ops' R, R = l.drop n → wpList P ops' Q (l.take n ++ R) a w) : wpList P ops Q l a w := by
  have := h ops _ rfl
  rwa [List.take_append_drop] at this
/-- a call of a function value in a slot is that of the function by its name -/
theorem wpList_named {P : Program} {ops : Array Oper} {rest : List Oper} {a : Act} {w : World} {Q : Exit → Act → World → Prop} {dst : Option Tmp} {i : Tmp} {xs : Array Operand} {ats : Array TypeId} {ty : TypeId} {pos : String} {after : Array Edge} (f : FuncId)
    (hx : a.eval (.tmp i) = .func (.func f) #[] #[]) (h : wpList P ops Q (⟨dst, .call { callee := .value (.func f), args := xs, argTypes := ats }, ty, pos, after, none⟩ :: rest) a w) :
    wpList P ops Q (⟨dst, .call { callee := .value (.tmp i), args := xs, argTypes := ats }, ty, pos, after, none⟩ :: rest) a w := by
  have e : execOp a.eval ⟨dst, .call { callee := .value (.tmp i), args := xs, argTypes := ats }, ty, pos, after, none⟩ = execOp a.eval ⟨dst, .call { callee := .value (.func f), args := xs, argTypes := ats }, ty, pos, after, none⟩ := by
    simp only [execOp, resolve]
    rw [hx]
    rfl
  unfold wpList at h ⊢
  unfold Oper.wp Oper.asks at h ⊢
  rw [e]
  exact h
end Go.Proofs.YtiildgoaiookhaaGreat
