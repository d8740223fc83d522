/- A catalogue as a value: its clients, open backups and snapshots; rows of them in memory. No program in sight. -/
import Derived.Test.YtcdnjhcddbkciaaEntry
namespace Go.Proofs.Ytcdnjhcddbkciaa
open Go.RowKit Go.Deep Go.ChangeShapes Go.WideShapes

/-! a row of one-cell elements -/
/-- The slice of n ints at A reads as l. -/
def Is (w : World) (A : Option Addr) (n : Nat) (l : List Int) : Prop := Rd w A n 1 (l.map (Value.int .i64))
section
variable {w w' : World} {n : Nat} {A : Option Addr} {l : List Int}
theorem Is.len (h : Is w A n l) : l.length = n := by have := h.1; simpa using this
theorem Is.ext (h : Is w A n l) (he : Ext w w') : Is w' A n l := Rd.ext h he
theorem Is.nil_ (w : World) (A : Option Addr) : Is w A 0 [] := Rd.nil_ w A 1
theorem Is.at_ (h : Is w A n l) {k : Nat} (hk : k < n) : ∃ b off, A = some ⟨b, off, none⟩ ∧ w.cell? ⟨b, off + k, none⟩ = some (.int .i64 (l[k]'(by rw [h.len]; exact hk))) := by
  obtain ⟨b, off, e, _, hc⟩ := h.2 (by omega)
  refine ⟨b, off, e, hc k _ ?_⟩
  rw [List.getElem?_map, List.getElem?_eq_getElem (by rw [h.len]; exact hk)]
  rfl
theorem Is.part (h : Is w A n l) {lo m : Nat} (hm : lo + m ≤ n) (A' : Option Addr) (hA : 0 < m → ∀ b off, A = some ⟨b, off, none⟩ → A' = some ⟨b, off + lo, none⟩) :
    Is w A' m ((l.drop lo).take m) := by
  have := Rd.part h hm A' (by simpa using hA)
  simpa [Is, List.map_take, List.map_drop] using this
theorem Is.upto (h : Is w A n l) {hi : Nat} (hh : hi ≤ n) : Is w A hi (l.take hi) := by
  have := h.part (lo := 0) (m := hi) (by omega) A (fun _ b off e => by simpa using e)
  simpa using this
theorem Is.of_own {base : Nat} {e : TypeId} {c : Nat} (h : w.ownsRow base e 1 (.slice A n c) n (l.map (Value.int .i64))) : Is w A n l := Rd.of_own h
end
theorem ints_one (l : List Int) : ∀ u ∈ l.map (Value.int .i64), u.oneCell' = true := by
  intro u hu; obtain ⟨x, _, rfl⟩ := List.mem_map.1 hu; rfl

/-! rows of things of several cells, once for all -/
/-- things of size cells, that are there -/
class Thing (α : Type) (size : outParam Nat) where
  cells : α → List Value
  ok : α → World → Prop
  len : ∀ x, (cells x).length = size
  one : ∀ x, ∀ u ∈ cells x, u.oneCell' = true
  ext : ∀ {x w w'}, ok x w → Ext w w' → ok x w'
section
variable {α : Type} {size : Nat} [T : Thing α size]
def thingsOf (l : List α) : List Value := (l.map T.cells).flatten
theorem thingsOf_len (l : List α) : (thingsOf l).length = l.length * size := by
  have := flatten_len (size := size) (l.map T.cells) (by intro r hr; obtain ⟨f, _, rfl⟩ := List.mem_map.1 hr; exact T.len f)
  simpa [thingsOf] using this
theorem thingsOf_get (l : List α) (i k : Nat) (hi : i < l.length) (hk : k < size) : (thingsOf l)[i * size + k]? = (T.cells l[i])[k]? := by
  have := flatten_get (size := size) (l.map T.cells) (by intro r hr; obtain ⟨f, _, rfl⟩ := List.mem_map.1 hr; exact T.len f) i k hk
  rw [thingsOf, this, List.getElem?_map, List.getElem?_eq_getElem hi]; rfl
theorem thingsOf_append (l m : List α) : thingsOf (l ++ m) = thingsOf l ++ thingsOf m := by simp [thingsOf]
theorem thingsOf_one (f : α) : thingsOf [f] = T.cells f := by simp [thingsOf]
theorem thingsOf_nil : thingsOf ([] : List α) = [] := rfl
theorem thingsOf_cells (l : List α) : ∀ u ∈ thingsOf l, u.oneCell' = true := by
  intro u hu
  obtain ⟨r, hr, hu⟩ := List.mem_flatten.1 hu
  obtain ⟨f, _, rfl⟩ := List.mem_map.1 hr
  exact T.one f u hu
theorem thingsOf_drop (l : List α) (k : Nat) : thingsOf (l.drop k) = (thingsOf l).drop (k * size) := by
  by_cases hk : k ≤ l.length
  · have h := thingsOf_append (l.take k) (l.drop k)
    rw [List.take_append_drop] at h
    rw [h, List.drop_left' (by rw [thingsOf_len, List.length_take]; congr 1; omega)]
  · rw [List.drop_of_length_le (by omega), List.drop_of_length_le (by rw [thingsOf_len]; exact Nat.mul_le_mul_right _ (by omega)), thingsOf_nil]
theorem thingsOf_take (l : List α) (k : Nat) : thingsOf (l.take k) = (thingsOf l).take (k * size) := by
  by_cases hk : k ≤ l.length
  · have h := thingsOf_append (l.take k) (l.drop k)
    rw [List.take_append_drop] at h
    rw [h, List.take_left' (by rw [thingsOf_len, List.length_take]; congr 1; omega)]
  · rw [List.take_of_length_le (by omega), List.take_of_length_le (by rw [thingsOf_len]; exact Nat.mul_le_mul_right _ (by omega))]

/-- The slice of n things at A reads as l, and they are there. -/
structure Ts (w : World) (A : Option Addr) (n : Nat) (l : List α) : Prop where
  rd : Rd w A n size (thingsOf l)
  ok : ∀ f ∈ l, T.ok f w
  pos : 0 < size
variable {w w' : World} {A : Option Addr} {n : Nat} {l : List α}
theorem Ts.len (h : Ts w A n l) : l.length = n := by
  have := h.rd.1; rw [thingsOf_len] at this; exact Nat.eq_of_mul_eq_mul_right h.pos this
theorem Ts.ext (h : Ts w A n l) (he : Ext w w') : Ts w' A n l := ⟨h.rd.ext he, fun f hf => T.ext (h.ok f hf) he, h.pos⟩
theorem Ts.nil_ (w : World) (A : Option Addr) (hp : 0 < size) : Ts w A 0 ([] : List α) := ⟨Rd.nil_ w A size, by simp, hp⟩
theorem Ts.at_ (h : Ts w A n l) {i : Nat} (hi : i < n) : ∃ b off, A = some ⟨b, off, none⟩ ∧ b < w.heap.size ∧ ∀ k, k < size → w.cell? ⟨b, off + i * size + k, none⟩ = (T.cells (l[i]'(by rw [h.len]; exact hi)))[k]? := by
  obtain ⟨b, off, e, hb, hc⟩ := h.rd.2 (by omega)
  have hl := h.len
  refine ⟨b, off, e, hb, fun k hk => ?_⟩
  have g := thingsOf_get l i k (by omega) hk
  have hs : k < (T.cells (l[i]'(by omega))).length := by rw [T.len]; exact hk
  rw [List.getElem?_eq_getElem hs] at g ⊢
  rw [Nat.add_assoc]
  exact hc _ _ g
theorem Ts.of_own {base : Nat} {e : TypeId} {c : Nat} (h : w.ownsRow base e size (.slice A n c) n (thingsOf l)) (ho : ∀ f ∈ l, T.ok f w) (hp : 0 < size) : Ts w A n l := ⟨Rd.of_own h, ho, hp⟩
theorem Ts.upto (h : Ts w A n l) {hi : Nat} (hh : hi ≤ n) : Ts w A hi (l.take hi) := by
  have := h.rd.part (lo := 0) (m := hi) (by omega) A (fun _ b off e => by simpa using e)
  simp only [Nat.zero_mul, List.drop_zero] at this
  rw [← thingsOf_take] at this
  exact ⟨this, fun f hf => h.ok f (List.mem_of_mem_take hf), h.pos⟩
theorem Ts.from_ (h : Ts w A n l) {lo cap : Nat} (hlo : lo ≤ n) (hc : n ≤ cap) : Ts w (if cap = lo then A else A.map (·.add (lo * size))) (n - lo) (l.drop lo) := by
  have := h.rd.part (lo := lo) (m := n - lo) (by omega) (if cap = lo then A else A.map (·.add (lo * size))) (fun hp b off e => by
    rw [if_neg (by omega), e]; simp [plain_add])
  rw [List.take_of_length_le (by rw [List.length_drop, thingsOf_len, h.len, ← Nat.sub_mul]; exact Nat.le_refl _), ← thingsOf_drop] at this
  exact ⟨this, fun f hf => h.ok f (List.mem_of_mem_drop hf), h.pos⟩
end

/-! clients, open backups, snapshots -/
structure CV where
  client : Int
  seq : Int
  code : Int
  n : Int
deriving DecidableEq
def CV.cells (f : CV) : List Value := [.int .i64 f.client, .int .i64 f.seq, .int .i64 f.code, .int .i64 f.n]
structure CV.Ok (f : CV) (_ : World) : Prop where
  u0 : I64 f.client
  u1 : I64 f.seq
  u2 : I64 f.code
  u3 : I64 f.n
instance : Thing CV 4 where
  cells := CV.cells
  ok := CV.Ok
  len := fun _ => rfl
  one := fun f u hu => by
    simp only [CV.cells, List.mem_cons, List.not_mem_nil, or_false] at hu
    rcases hu with rfl | rfl | rfl | rfl <;> rfl
  ext := fun h _ => ⟨h.u0, h.u1, h.u2, h.u3⟩
structure OV where
  set : Int
  client : Int
deriving DecidableEq
def OV.cells (f : OV) : List Value := [.int .i64 f.set, .int .i64 f.client]
structure OV.Ok (f : OV) (_ : World) : Prop where
  u0 : I64 f.set
  u1 : I64 f.client
instance : Thing OV 2 where
  cells := OV.cells
  ok := OV.Ok
  len := fun _ => rfl
  one := fun f u hu => by
    simp only [OV.cells, List.mem_cons, List.not_mem_nil, or_false] at hu
    rcases hu with rfl | rfl <;> rfl
  ext := fun h _ => ⟨h.u0, h.u1⟩
structure NV where
  id : Int
  set : Int
  A : Option Addr
  len : Nat
  cap : Nat
  ch : List Int
  held : Bool
  tag : ByteArray
def NV.cells (f : NV) : List Value := [.int .i64 f.id, .int .i64 f.set, .slice f.A f.len f.cap, .bool f.held, .string f.tag]
structure NV.Ok (f : NV) (w : World) : Prop where
  u0 : I64 f.id
  u1 : I64 f.set
  cs : Is w f.A f.len f.ch
  le : f.len ≤ f.cap
  cap : f.cap ≤ maxLen
  uc : ∀ x ∈ f.ch, I64 x
  ut : f.tag.size ≤ maxLen
theorem NV.Ok.ext {f : NV} {w w' : World} (h : f.Ok w) (he : Ext w w') : f.Ok w' := ⟨h.u0, h.u1, h.cs.ext he, h.le, h.cap, h.uc, h.ut⟩
instance : Thing NV 5 where
  cells := NV.cells
  ok := NV.Ok
  len := fun _ => rfl
  one := fun f u hu => by
    simp only [NV.cells, List.mem_cons, List.not_mem_nil, or_false] at hu
    rcases hu with rfl | rfl | rfl | rfl | rfl <;> rfl
  ext := fun h he => h.ext he
/-- a catalogue -/
structure KV where
  ver : Int
  next : Int
  keep : Int
  quota : Int
  A1 : Option Addr
  n1 : Nat
  c1 : Nat
  ses : List CV
  A2 : Option Addr
  n2 : Nat
  c2 : Nat
  ops : List OV
  A3 : Option Addr
  n3 : Nat
  c3 : Nat
  sns : List NV
def KV.cells (s : KV) : List Value := [.int .i64 s.ver, .int .i64 s.next, .int .i64 s.keep, .int .i64 s.quota, .slice s.A1 s.n1 s.c1, .slice s.A2 s.n2 s.c2, .slice s.A3 s.n3 s.c3]
def KV.val (s : KV) : Value := .agg #[.int .i64 s.ver, .int .i64 s.next, .int .i64 s.keep, .int .i64 s.quota, .slice s.A1 s.n1 s.c1, .slice s.A2 s.n2 s.c2, .slice s.A3 s.n3 s.c3]
structure KV.Ok (s : KV) (w : World) : Prop where
  u0 : I64 s.ver
  u1 : I64 s.next
  u2 : I64 s.keep
  u3 : I64 s.quota
  t1 : Ts w s.A1 s.n1 s.ses
  le1 : s.n1 ≤ s.c1
  cap1 : s.c1 ≤ maxLen
  t2 : Ts w s.A2 s.n2 s.ops
  le2 : s.n2 ≤ s.c2
  cap2 : s.c2 ≤ maxLen
  t3 : Ts w s.A3 s.n3 s.sns
  le3 : s.n3 ≤ s.c3
  cap3 : s.c3 ≤ maxLen
theorem KV.Ok.ext {s : KV} {w w' : World} (h : s.Ok w) (he : Ext w w') : s.Ok w' := ⟨h.u0, h.u1, h.u2, h.u3, h.t1.ext he, h.le1, h.cap1, h.t2.ext he, h.le2, h.cap2, h.t3.ext he, h.le3, h.cap3⟩

section
variable {H : Type} {enc : TypeId × Value → H} {P : Program} {w : World} {base b0 : Nat} {spare : Nat → Bool} {held : Bool} {r : Reach}
/-- the parts of a struct -/
theorem Tr.parts {t : TypeId} {fs : Array Field} {cs : List Value} (ht : P.underlying t = some (.struct fs)) (h : Tr enc P w base spare held t cs) :
    cs.length = P.cellsOf t ∧ ∀ (j : Nat) (f : Field), fs[j]? = some f → Tr enc P w base spare held f.type ((cs.drop f.offset).take (P.cellsOf f.type)) := by
  obtain ⟨fuel, x, h⟩ := h
  obtain ⟨ys, n, _, _, hlen, hyl, hf⟩ := DataW.trod_struct ht h
  refine ⟨hlen, fun j f hj => ?_⟩
  have hjl : j < fs.size := (Array.getElem?_eq_some_iff.1 hj).1
  have h1 := hf j f hj
  rw [List.getElem?_eq_getElem (by omega)] at h1
  exact ⟨n, _, h1⟩
theorem Tr.str {t : TypeId} {v : Value} (ht : P.underlying t = some .string) (h : Tr enc P w base spare held t [v]) : ∃ s : ByteArray, v = .string s ∧ s.size ≤ maxLen := by
  obtain ⟨fuel, x, h⟩ := h
  obtain ⟨s, hc, _, hs⟩ := DataW.trod_string ht h
  exact ⟨s, by simpa using hc, hs⟩
theorem Tr.ints {t e : TypeId} {v : Value} (ht : P.underlying t = some (.slice e)) (he : P.underlying e = some (.int .i64)) (hC : P.cellsOf e = 1) (h : Tr enc P w base spare held t [v]) : ∃ A n c l, v = .slice A n c ∧ Is w A n l ∧ n ≤ c ∧ c ≤ maxLen ∧ ∀ x ∈ l, I64 x := by
  obtain ⟨A, n, c, rows, hvv, hnc, hcm, hrl, hrows, hrd⟩ := h.slice ht hC (by omega)
  obtain ⟨l, hl, hk⟩ := list_map_of (fun b => [Value.int .i64 b]) I64 rows (fun row hr => by
    obtain ⟨hlen, htr⟩ := hrows row hr
    match row, hlen with
    | [x0], _ =>
      obtain ⟨b, rfl, hb⟩ := htr.i64 he
      exact ⟨b, rfl, hb⟩)
  refine ⟨A, n, c, l, hvv, ?_, hnc, hcm, hk⟩
  rw [hl] at hrd
  have : (l.map fun b => [Value.int .i64 b]).flatten = l.map (Value.int .i64) := by
    clear hl hk hrd
    induction l with
    | nil => rfl
    | cons a r ih => simp only [List.map_cons, List.flatten_cons, ih]; rfl
  rw [this] at hrd
  exact hrd
theorem open_ints' {t e : TypeId} {v : Value} {d : DataW H} {p : List MemPlace} (ht : P.underlying t = some (.slice e)) (he : P.underlying e = some (.int .i64)) (hC : P.cellsOf e = 1)
    (hv : Value.okWide P w r b0 t v) (h : DataW.Trod enc P w base spare held t v d p) : ∃ A n c l, v = .slice A n c ∧ Is w A n l ∧ n ≤ c ∧ c ≤ maxLen ∧ ∀ x ∈ l, I64 x := (open_slice_val ht hv h).ints ht he hC
/-- a slice of things -/
theorem Tr.things {α : Type} {size : Nat} [T : Thing α size] {t e : TypeId} {v : Value} (ht : P.underlying t = some (.slice e)) (hC : P.cellsOf e = size) (hp : 0 < size)
    (hx : ∀ row : List Value, row.length = size → Tr enc P w base spare held e row → ∃ x : α, row = T.cells x ∧ T.ok x w) (h : Tr enc P w base spare held t [v]) :
    ∃ A n c, ∃ l : List α, v = .slice A n c ∧ Ts w A n l ∧ n ≤ c ∧ c ≤ maxLen := by
  obtain ⟨A, n, c, rows, hvv, hnc, hcm, hrl, hrows, hrd⟩ := h.slice ht hC hp
  obtain ⟨l, hl, hk⟩ := list_map_of T.cells (fun f => T.ok f w) rows (fun row hr => hx row (hrows row hr).1 (hrows row hr).2)
  exact ⟨A, n, c, l, hvv, ⟨by rw [hl] at hrd; exact hrd, hk, hp⟩, hnc, hcm⟩

/-- what the types of a catalogue are: the numbers of types are letters -/
structure CatT (P : Program) (ts t1 e1 tr te ti t2 e2 t3 e3 tc tb tg : TypeId) : Prop where
  s : ∃ fs : Array Field, P.underlying ts = some (.struct fs) ∧ fs.toList.map (·.type) = [ti, ti, ti, ti, t1, t2, t3] ∧ oneCellFields P fs = true ∧ P.cellsOf ts = 7
  s1 : P.underlying t1 = some (.slice e1)
  f1 : ∃ a b c : Field, P.underlying e1 = some (.struct #[a, b, c]) ∧ a.type = ti ∧ b.type = ti ∧ c.type = tr ∧ a.offset = 0 ∧ b.offset = 1 ∧ c.offset = 2
  c1 : P.cellsOf e1 = 4
  r1 : ∃ a b : Field, P.underlying tr = some (.struct #[a, b]) ∧ a.type = te ∧ b.type = ti ∧ a.offset = 0 ∧ b.offset = 1
  cr : P.cellsOf tr = 2
  ce : P.cellsOf te = 1
  ci : P.cellsOf ti = 1
  ue : P.underlying te = some (.int .i64)
  ui : P.underlying ti = some (.int .i64)
  s2 : P.underlying t2 = some (.slice e2)
  f2 : ∃ fs : Array Field, P.underlying e2 = some (.struct fs) ∧ fs.toList.map (·.type) = [ti, ti] ∧ oneCellFields P fs = true ∧ P.cellsOf e2 = 2
  s3 : P.underlying t3 = some (.slice e3)
  f3 : ∃ fs : Array Field, P.underlying e3 = some (.struct fs) ∧ fs.toList.map (·.type) = [ti, ti, tc, tb, tg] ∧ oneCellFields P fs = true ∧ P.cellsOf e3 = 5
  sc : P.underlying tc = some (.slice ti)
  ub : P.underlying tb = some .bool
  ug : P.underlying tg = some .string
variable {ts t1 e1 tr te ti t2 e2 t3 e3 tc tb tg : TypeId}
theorem Tr.sess (C : CatT P ts t1 e1 tr te ti t2 e2 t3 e3 tc tb tg) {cs : List Value} (hl : cs.length = 4) (h : Tr enc P w base spare held e1 cs) : ∃ x : CV, cs = x.cells ∧ x.Ok w := by
  obtain ⟨a, b, c, h1, ha, hb, hc, oa, ob, oc⟩ := C.f1
  obtain ⟨_, hf⟩ := h.parts h1
  have p0 := hf 0 a rfl
  have p1 := hf 1 b rfl
  have p2 := hf 2 c rfl
  rw [ha, oa, C.ci] at p0
  rw [hb, ob, C.ci] at p1
  rw [hc, oc, C.cr] at p2
  match cs, hl with
  | [x0, x1, x2, x3], _ =>
    obtain ⟨a0, rfl, k0⟩ := Tr.i64 C.ui p0
    obtain ⟨a1, rfl, k1⟩ := Tr.i64 C.ui p1
    obtain ⟨d, f, r1, rd, rf, od, of⟩ := C.r1
    obtain ⟨_, hg⟩ := p2.parts r1
    have q0 := hg 0 d rfl
    have q1 := hg 1 f rfl
    rw [rd, od, C.ce] at q0
    rw [rf, of, C.ci] at q1
    obtain ⟨a2, rfl, k2⟩ := Tr.i64 C.ue q0
    obtain ⟨a3, rfl, k3⟩ := Tr.i64 C.ui q1
    exact ⟨⟨a0, a1, a2, a3⟩, rfl, ⟨k0, k1, k2, k3⟩⟩
theorem Tr.open_ (C : CatT P ts t1 e1 tr te ti t2 e2 t3 e3 tc tb tg) {cs : List Value} (hl : cs.length = 2) (h : Tr enc P w base spare held e2 cs) : ∃ x : OV, cs = x.cells ∧ x.Ok w := by
  obtain ⟨fs, h1, h2, h3, h4⟩ := C.f2
  obtain ⟨_, hf⟩ := h.typed h1 h2 h3 h4
  match cs, hl with
  | [x0, x1], _ =>
    obtain ⟨v0, e0, t0⟩ := hf 0 ti rfl
    obtain ⟨v1, e1, t1⟩ := hf 1 ti rfl
    simp only [List.getElem?_cons_zero, List.getElem?_cons_succ, Option.some.injEq] at e0 e1
    subst e0 e1
    obtain ⟨a0, rfl, k0⟩ := t0.i64 C.ui
    obtain ⟨a1, rfl, k1⟩ := t1.i64 C.ui
    exact ⟨⟨a0, a1⟩, rfl, ⟨k0, k1⟩⟩
theorem Tr.snap (C : CatT P ts t1 e1 tr te ti t2 e2 t3 e3 tc tb tg) {cs : List Value} (hl : cs.length = 5) (h : Tr enc P w base spare held e3 cs) : ∃ x : NV, cs = x.cells ∧ x.Ok w := by
  obtain ⟨fs, h1, h2, h3, h4⟩ := C.f3
  obtain ⟨_, hf⟩ := h.typed h1 h2 h3 h4
  match cs, hl with
  | [x0, x1, x2, x3, x4], _ =>
    obtain ⟨v0, e0, t0⟩ := hf 0 ti rfl
    obtain ⟨v1, e1, t1⟩ := hf 1 ti rfl
    obtain ⟨v2, e2, t2⟩ := hf 2 tc rfl
    obtain ⟨v3, e3, t3⟩ := hf 3 tb rfl
    obtain ⟨v4, e4, t4⟩ := hf 4 tg rfl
    simp only [List.getElem?_cons_zero, List.getElem?_cons_succ, Option.some.injEq] at e0 e1 e2 e3 e4
    subst e0 e1 e2 e3 e4
    obtain ⟨a0, rfl, k0⟩ := t0.i64 C.ui
    obtain ⟨a1, rfl, k1⟩ := t1.i64 C.ui
    obtain ⟨A, n, c, l, rfl, g1, g2, g3, g4⟩ := t2.ints C.sc C.ui C.ci
    obtain ⟨q, rfl⟩ := t3.bool C.ub
    obtain ⟨s, rfl, hs⟩ := t4.str C.ug
    exact ⟨⟨a0, a1, A, n, c, l, q, s⟩, rfl, ⟨k0, k1, g1, g2, g3, g4, hs⟩⟩
/-- a catalogue that is an argument -/
theorem open_state (C : CatT P ts t1 e1 tr te ti t2 e2 t3 e3 tc tb tg) {v : Value} {d : DataW H} {p : List MemPlace}
    (hv : Value.okWide P w r b0 ts v) (h : DataW.Trod enc P w base spare held ts v d p) : ∃ s : KV, v = s.val ∧ s.Ok w := by
  obtain ⟨gs, hs, hgs, hones, hCs⟩ := C.s
  obtain ⟨cs, rfl, htr⟩ := open_struct hs hv h
  obtain ⟨hlen, hf⟩ := htr.typed hs hgs hones hCs
  match cs, hlen with
  | [x0, x1, x2, x3, x4, x5, x6], _ =>
    obtain ⟨v0, e0, p0⟩ := hf 0 ti rfl
    obtain ⟨v1, e1, p1⟩ := hf 1 ti rfl
    obtain ⟨v2, e2, p2⟩ := hf 2 ti rfl
    obtain ⟨v3, e3, p3⟩ := hf 3 ti rfl
    obtain ⟨v4, e4, p4⟩ := hf 4 t1 rfl
    obtain ⟨v5, e5, p5⟩ := hf 5 t2 rfl
    obtain ⟨v6, e6, p6⟩ := hf 6 t3 rfl
    simp only [List.getElem?_cons_zero, List.getElem?_cons_succ, Option.some.injEq] at e0 e1 e2 e3 e4 e5 e6
    subst e0 e1 e2 e3 e4 e5 e6
    obtain ⟨a0, rfl, k0⟩ := p0.i64 C.ui
    obtain ⟨a1, rfl, k1⟩ := p1.i64 C.ui
    obtain ⟨a2, rfl, k2⟩ := p2.i64 C.ui
    obtain ⟨a3, rfl, k3⟩ := p3.i64 C.ui
    obtain ⟨fa, fb, fc, g2⟩ := C.f1
    obtain ⟨f2, h21, h22, h23, h24⟩ := C.f2
    obtain ⟨f3, h31, h32, h33, h34⟩ := C.f3
    obtain ⟨A1, n1, c1, l1, rfl, b1, b2, b3⟩ := p4.things (α := CV) C.s1 C.c1 (by omega) (fun row hl ht => Tr.sess C hl ht)
    obtain ⟨A2, n2, c2, l2, rfl, b4, b5, b6⟩ := p5.things (α := OV) C.s2 h24 (by omega) (fun row hl ht => Tr.open_ C hl ht)
    obtain ⟨A3, n3, c3, l3, rfl, b7, b8, b9⟩ := p6.things (α := NV) C.s3 h34 (by omega) (fun row hl ht => Tr.snap C hl ht)
    exact ⟨⟨a0, a1, a2, a3, A1, n1, c1, l1, A2, n2, c2, l2, A3, n3, c3, l3⟩, rfl, ⟨k0, k1, k2, k3, b1, b2, b3, b4, b5, b6, b7, b8, b9⟩⟩
end
end Go.Proofs.Ytcdnjhcddbkciaa
