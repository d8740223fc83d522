/- Words and walks that the last text of this claim stands on: Open2, Entry, Cat, Field, Rec, EntP, MkA. No condition. -/
import Derived.Test.YtiildgoaiookhaaGreatB02
import Derived.Deep.Slices
import Derived.Deep.Fields
import Derived.ChangeSame
import Derived.Test.YtiildgoaiookhaaGreatB01
/- Arguments of a law opened into the words of the walks: structs, arrays, slices of structs. No program in sight. -/
namespace Go.Proofs.YtiildgoaiookhaaGreat
open Go.ChangeShapes Go.WideShapes Go.ChangeAt Go.RowKit Go.Deep

theorem list_map_of {α β : Type} (g : β → α) (Q : β → Prop) : ∀ (l : List α), (∀ x ∈ l, ∃ y, x = g y ∧ Q y) → ∃ ys : List β, l = ys.map g ∧ ∀ y ∈ ys, Q y
  | [], _ => ⟨[], rfl, by simp⟩
  | x :: r, h => by
    obtain ⟨y, hy, hq⟩ := h x (List.mem_cons_self ..)
    obtain ⟨ys, hys, hqs⟩ := list_map_of g Q r fun z hz => h z (List.mem_cons_of_mem _ hz)
    exact ⟨y :: ys, by rw [hy, hys]; rfl, by
      intro z hz
      rcases List.mem_cons.1 hz with rfl | hz
      · exact hq
      · exact hqs z hz⟩

theorem flatten_get {α : Type} {size : Nat} : ∀ (rows : List (List α)), (∀ r ∈ rows, r.length = size) → ∀ i k, k < size → rows.flatten[i * size + k]? = (rows[i]?).bind (·[k]?)
  | [], _, i, k, _ => by simp
  | r :: rs, h, 0, k, hk => by
    have hr := h r (List.mem_cons_self ..)
    simp only [List.flatten_cons, Nat.zero_mul, Nat.zero_add, List.getElem?_cons_zero, Option.bind_some]
    rw [List.getElem?_append_left (by omega)]
  | r :: rs, h, i + 1, k, hk => by
    have hr := h r (List.mem_cons_self ..)
    have ih := flatten_get rs (fun z hz => h z (List.mem_cons_of_mem _ hz)) i k hk
    simp only [List.flatten_cons, List.getElem?_cons_succ]
    rw [List.getElem?_append_right (by rw [hr, Nat.succ_mul]; omega), hr, ← ih]
    congr 1
    rw [Nat.succ_mul]; omega
theorem flatten_len {α : Type} {size : Nat} : ∀ (rows : List (List α)), (∀ r ∈ rows, r.length = size) → rows.flatten.length = rows.length * size
  | [], _ => by simp
  | r :: rs, h => by
    rw [List.flatten_cons, List.length_append, flatten_len rs (fun z hz => h z (List.mem_cons_of_mem _ hz)), h r (List.mem_cons_self ..), List.length_cons, Nat.succ_mul]
    omega

section
variable {H : Type} {enc : TypeId × Value → H} {P : Program} {w : World} {base b0 : Nat} {spare : Nat → Bool} {held : Bool} {r : Reach}

/-- The cells cs are read as a value of type t. -/
def Tr (enc : TypeId × Value → H) (P : Program) (w : World) (base : Nat) (spare : Nat → Bool) (held : Bool) (t : TypeId) (cs : List Value) : Prop :=
  ∃ fuel x, DataW.trod enc P w base spare held fuel t cs = some x
theorem Tr.of_trod {t : TypeId} {v : Value} {d : DataW H} {p : List MemPlace} (h : DataW.Trod enc P w base spare held t v d p) : Tr enc P w base spare held t v.cells.toList := by
  obtain ⟨fuel, hf⟩ := h
  exact ⟨fuel, _, hf⟩
theorem Tr.int {t : TypeId} {k : IntKind} {v : Value} (ht : P.underlying t = some (.int k)) (h : Tr enc P w base spare held t [v]) : ∃ n, v = .int k n ∧ (Lit.int k n).wf = true := by
  obtain ⟨fuel, x, h⟩ := h
  obtain ⟨n, hc, _, hw⟩ := DataW.trod_int ht h
  exact ⟨n, by simpa using hc, hw⟩
theorem Tr.bool {t : TypeId} {v : Value} (ht : P.underlying t = some .bool) (h : Tr enc P w base spare held t [v]) : ∃ b, v = .bool b := by
  obtain ⟨fuel, x, h⟩ := h
  obtain ⟨n, hc, _⟩ := DataW.trod_bool ht h
  exact ⟨n, by simpa using hc⟩
theorem Tr.bytes {t e : TypeId} {v : Value} (ht : P.underlying t = some (.slice e)) (he : P.underlying e = some (.int .u8)) (hc : P.cellsOf e = 1) (h : Tr enc P w base spare held t [v]) :
    ∃ A n c l, v = .slice A n c ∧ Bs w A n l ∧ n ≤ c ∧ c ≤ maxLen := by
  obtain ⟨fuel, x, h⟩ := h
  rcases open_ints ht he hc h with ⟨hcs, _⟩ | ⟨x, l, c', zs, hcs, _, hl, hm, hz, _, hcell, hwz⟩
  · exact ⟨none, 0, 0, [], by simpa using hcs, Bs.nil_ _ _, by omega, by unfold maxLen; omega⟩
  · refine ⟨some x, l, c', _, by simpa using hcs, bs_of_ints (zs := zs) ?_ hcell hwz, hl, hm⟩
    split at hz <;> omega
/-- the fields of a struct of one-cell fields -/
theorem Tr.fields {t : TypeId} {fs : Array Field} {cs : List Value} (ht : P.underlying t = some (.struct fs)) (hone : oneCellFields P fs = true) (hC : P.cellsOf t = fs.size) (h : Tr enc P w base spare held t cs) :
    cs.length = fs.size ∧ ∀ (j : Nat) (f : Field), fs[j]? = some f → ∃ v, cs[j]? = some v ∧ Tr enc P w base spare held f.type [v] := by
  obtain ⟨fuel, x, h⟩ := h
  obtain ⟨ys, n, _, _, hlen, hyl, hf⟩ := DataW.trod_struct ht h
  rw [hC] at hlen
  refine ⟨hlen, fun j f hj => ?_⟩
  obtain ⟨ho, hk⟩ := hone_of hone j f hj
  have hjl : j < fs.size := (Array.getElem?_eq_some_iff.1 hj).1
  have h1 := hf j f hj
  rw [ho, hk] at h1
  have hone' : (cs.drop j).take 1 = [cs[j]'(by omega)] := by
    rw [List.drop_eq_getElem_cons (by omega)]; rfl
  rw [hone'] at h1
  exact ⟨_, List.getElem?_eq_getElem (by omega), n, _, h1.trans (List.getElem?_eq_getElem (by omega))⟩
/-- the elements of an array of one-cell elements -/
theorem Tr.elems {t e : TypeId} {n : Nat} {cs : List Value} (ht : P.underlying t = some (.array n e)) (hC : P.cellsOf t = n) (he : P.cellsOf e = 1) (h : Tr enc P w base spare held t cs) :
    cs.length = n ∧ ∀ (j : Nat) (v : Value), cs[j]? = some v → Tr enc P w base spare held e [v] := by
  obtain ⟨fuel, x, h⟩ := h
  obtain ⟨xs, m, _, _, hlen, hxl, hf⟩ := DataW.trod_array ht h
  rw [hC] at hlen
  refine ⟨hlen, fun j v hj => ?_⟩
  have hjl : j < cs.length := (List.getElem?_eq_some_iff.1 hj).1
  have h1 := hf j (by omega)
  rw [he, Nat.mul_one, List.drop_eq_getElem_cons hjl] at h1
  have hv : cs[j] = v := by rw [List.getElem?_eq_getElem hjl] at hj; simpa using hj
  simp only [List.take_succ_cons, List.take_zero, hv] at h1
  exact ⟨m, _, h1.trans (List.getElem?_eq_getElem (by omega))⟩
/-- the elements of a slice, each a row of size cells -/
theorem Tr.slice {t e : TypeId} {size : Nat} {v : Value} (ht : P.underlying t = some (.slice e)) (hC : P.cellsOf e = size) (hs : 0 < size) (h : Tr enc P w base spare held t [v]) :
    ∃ (A : Option Addr) (n c : Nat) (rows : List (List Value)), v = .slice A n c ∧ n ≤ c ∧ c ≤ maxLen ∧ rows.length = n ∧ (∀ r ∈ rows, r.length = size ∧ Tr enc P w base spare held e r) ∧ Rd w A n size rows.flatten := by
  obtain ⟨fuel, x, h⟩ := h
  rcases open_slice ht h with ⟨hcs, _⟩ | ⟨a, len, cap, m, n, D, Pl, hcs, _, hl, hm, hmm, _, hi⟩
  · exact ⟨none, 0, 0, [], by simpa using hcs, by omega, by unfold maxLen; omega, rfl, by simp, Rd.nil_ _ _ _⟩
  · rw [hC] at hi
    have hlm : len ≤ m := by rw [hmm]; split <;> omega
    have ex : ∀ i, i < len → ∃ cs', cs'.length = size ∧ Tr enc P w base spare held e cs' ∧ ∀ k, k < size → w.cell? (a.add (i * size + k)) = cs'[k]? := by
      intro i hil
      obtain ⟨cs', hc, ht'⟩ := hi i (by omega)
      obtain ⟨_, hcl, hat⟩ := World.cells?_some hc
      exact ⟨cs', hcl, ⟨n, _, ht'⟩, fun k hk => by rw [← hat k hk, Go.Deep.add_add]⟩
    have rowsOf : ∀ j, j ≤ len → ∃ rows : List (List Value), rows.length = j ∧ (∀ r ∈ rows, r.length = size ∧ Tr enc P w base spare held e r) ∧ ∀ i, i < j → ∀ k, k < size → w.cell? (a.add (i * size + k)) = (rows[i]?).bind (·[k]?) := by
      intro j
      induction j with
      | zero => exact fun _ => ⟨[], rfl, by simp, fun i hi => absurd hi (by omega)⟩
      | succ j ih =>
        intro hj
        obtain ⟨rows, h1, h2, h3⟩ := ih (by omega)
        obtain ⟨cs', g1, g2, g3⟩ := ex j (by omega)
        refine ⟨rows ++ [cs'], by simp [h1], ?_, ?_⟩
        · intro r hr
          rcases List.mem_append.1 hr with hr | hr
          · exact h2 r hr
          · simp only [List.mem_singleton] at hr; subst hr; exact ⟨g1, g2⟩
        · intro i hij k hk
          by_cases hij' : i = j
          · subst hij'
            rw [List.getElem?_append_right (by omega), h1]
            simpa using g3 k hk
          · rw [List.getElem?_append_left (by omega)]
            exact h3 i (by omega) k hk
    obtain ⟨rows, h1, h2, h3⟩ := rowsOf len (Nat.le_refl _)
    refine ⟨some a, len, cap, rows, by simpa using hcs, hl, hm, h1, h2, ?_, fun hp => ?_⟩
    · rw [flatten_len rows fun r hr => (h2 r hr).1, h1]
    · have h0 := h3 0 hp 0 hs
      have hr0 : rows[0]? = some (rows[0]'(by omega)) := List.getElem?_eq_getElem (by omega)
      have hl0 := (h2 _ (List.getElem_mem (by omega : 0 < rows.length))).1
      rw [hr0, Option.bind_some, List.getElem?_eq_getElem (by omega)] at h0
      obtain ⟨b, off, e0⟩ := add_spot h0
      have ha : a = ⟨b, off, none⟩ := by rw [← e0]; simp [Addr.add]
      subst ha
      refine ⟨b, off, rfl, World.block_lt_of_cell? w _ (by simpa [Addr.add] using h0), fun j u hu => ?_⟩
      have hj : j < rows.flatten.length := (List.getElem?_eq_some_iff.1 hu).1
      rw [flatten_len rows fun r hr => (h2 r hr).1, h1] at hj
      have hq : j / size < len := by rw [Nat.div_lt_iff_lt_mul hs]; exact hj
      have hk : j % size < size := Nat.mod_lt _ hs
      have e1 : j / size * size + j % size = j := by rw [Nat.mul_comm]; exact Nat.div_add_mod j size
      have := h3 (j / size) hq (j % size) hk
      rw [← flatten_get rows (fun r hr => (h2 r hr).1) _ _ hk, e1, plain_add] at this
      rw [this, hu]

/-- a struct by value: its cells -/
theorem open_struct {t : TypeId} {fs : Array Field} {v : Value} {d : DataW H} {p : List MemPlace} (ht : P.underlying t = some (.struct fs)) (hv : Value.okWide P w r b0 t v) (h : DataW.Trod enc P w base spare held t v d p) :
    ∃ cs : List Value, v = .agg cs.toArray ∧ Tr enc P w base spare held t cs := by
  obtain ⟨cs, rfl, _⟩ := okWide_struct ht hv
  have := Tr.of_trod h
  exact ⟨cs.toList, by simp, by simpa [Value.cells] using this⟩
theorem open_array {t e : TypeId} {n : Nat} {v : Value} {d : DataW H} {p : List MemPlace} (ht : P.underlying t = some (.array n e)) (hv : Value.okWide P w r b0 t v) (h : DataW.Trod enc P w base spare held t v d p) :
    ∃ cs : List Value, v = .agg cs.toArray ∧ Tr enc P w base spare held t cs := by
  simp only [Value.okWide, ht] at hv
  obtain ⟨cs, rfl, _⟩ := hv
  have := Tr.of_trod h
  exact ⟨cs.toList, by simp, by simpa [Value.cells] using this⟩
theorem open_slice_val {t e : TypeId} {v : Value} {d : DataW H} {p : List MemPlace} (ht : P.underlying t = some (.slice e)) (hv : Value.okWide P w r b0 t v) (h : DataW.Trod enc P w base spare held t v d p) :
    Tr enc P w base spare held t [v] := by
  obtain ⟨A, n, c, rfl⟩ := okWide_slice ht hv
  have := Tr.of_trod h
  simpa [Value.cells] using this
/-- two bools by value -/
theorem open_bool2 {t e : TypeId} {v : Value} {d : DataW H} {p : List MemPlace} (ht : P.underlying t = some (.array 2 e)) (he : P.underlying e = some .bool) (hC : P.cellsOf t = 2) (hE : P.cellsOf e = 1)
    (hv : Value.okWide P w r b0 t v) (h : DataW.Trod enc P w base spare held t v d p) : ∃ a b, v = .agg #[.bool a, .bool b] := by
  obtain ⟨cs, rfl, htr⟩ := open_array ht hv h
  obtain ⟨hl, hf⟩ := htr.elems ht hC hE
  match cs, hl with
  | [x, y], _ =>
    obtain ⟨a, rfl⟩ := (hf 0 x rfl).bool he
    obtain ⟨b, rfl⟩ := (hf 1 y rfl).bool he
    exact ⟨a, b, rfl⟩
end
end Go.Proofs.YtiildgoaiookhaaGreat

/- An entry of a log, a state, and a letter, as values and in memory. No program in sight. -/
namespace Go.Proofs.YtiildgoaiookhaaGreat
open Go.RowKit Go.Deep Go.ChangeShapes Go.WideShapes

/-- n is an int -/
structure I64 (n : Int) : Prop where
  lo : -9223372036854775808 ≤ n
  hi : n ≤ 9223372036854775807
theorem I64.of_wf {n : Int} (h : (Lit.int .i64 n).wf = true) : I64 n := by
  simp [Lit.wf, IntKind.min, IntKind.max, IntKind.signed, IntKind.bits] at h
  exact ⟨by omega, by omega⟩
theorem I64.wrap {n : Int} (h : I64 n) : IntKind.i64.wrap n = n := IntWalk.i64_in _ ⟨h.lo, h.hi⟩

/-- an entry: its term, its bytes, and where they lie -/
structure EV where
  term : Int
  A : Option Addr
  len : Nat
  cap : Nat
  b : List UInt8
def EV.cells (f : EV) : List Value := [.int .i64 f.term, .slice f.A f.len f.cap]
/-- its bytes lie there -/
structure EV.Ok (f : EV) (w : World) : Prop where
  bs : Bs w f.A f.len f.b
  le : f.len ≤ f.cap
  cap : f.cap ≤ maxLen
  u : I64 f.term
theorem EV.Ok.ext {f : EV} {w w' : World} (h : f.Ok w) (he : Ext w w') : f.Ok w' := ⟨h.bs.ext he, h.le, h.cap, h.u⟩
theorem EV.cells_one (f : EV) : ∀ u ∈ f.cells, u.oneCell' = true := by
  intro u hu
  simp only [EV.cells, List.mem_cons, List.not_mem_nil, or_false] at hu
  rcases hu with rfl | rfl <;> rfl
def logOf (l : List EV) : List Value := (l.map EV.cells).flatten
theorem logOf_len (l : List EV) : (logOf l).length = l.length * 2 := by
  have := flatten_len (size := 2) (l.map EV.cells) (by intro r hr; obtain ⟨f, _, rfl⟩ := List.mem_map.1 hr; rfl)
  simpa [logOf] using this
theorem logOf_get (l : List EV) (i k : Nat) (hi : i < l.length) (hk : k < 2) : (logOf l)[i * 2 + k]? = (l[i]).cells[k]? := by
  have := flatten_get (size := 2) (l.map EV.cells) (by intro r hr; obtain ⟨f, _, rfl⟩ := List.mem_map.1 hr; rfl) i k hk
  rw [logOf, this, List.getElem?_map, List.getElem?_eq_getElem hi]; rfl
theorem logOf_append (l m : List EV) : logOf (l ++ m) = logOf l ++ logOf m := by simp [logOf]
theorem logOf_one (f : EV) : logOf [f] = f.cells := by simp [logOf]
theorem logOf_cells (l : List EV) : ∀ u ∈ logOf l, u.oneCell' = true := by
  intro u hu
  obtain ⟨r, hr, hu⟩ := List.mem_flatten.1 hu
  obtain ⟨f, _, rfl⟩ := List.mem_map.1 hr
  exact f.cells_one u hu

/-- The slice of n entries at A reads as l, whose bytes lie there. -/
structure Es (w : World) (A : Option Addr) (n : Nat) (l : List EV) : Prop where
  rd : Rd w A n 2 (logOf l)
  ok : ∀ f ∈ l, f.Ok w
section
variable {w w' : World} {A : Option Addr} {n : Nat} {l : List EV}
theorem Es.len (h : Es w A n l) : l.length = n := by
  have := h.rd.1; rw [logOf_len] at this; omega
theorem Es.ext (h : Es w A n l) (he : Ext w w') : Es w' A n l := ⟨h.rd.ext he, fun f hf => (h.ok f hf).ext he⟩
theorem Es.nil_ (w : World) (A : Option Addr) : Es w A 0 [] := ⟨Rd.nil_ w A 2, by simp⟩
theorem Es.at_ (h : Es w A n l) {i : Nat} (hi : i < n) : ∃ b off, A = some ⟨b, off, none⟩ ∧
    w.cell? ⟨b, off + i * 2, none⟩ = some (.int .i64 (l[i]'(by rw [h.len]; exact hi)).term) ∧
    w.cell? ⟨b, off + i * 2 + 1, none⟩ = some (.slice (l[i]'(by rw [h.len]; exact hi)).A (l[i]'(by rw [h.len]; exact hi)).len (l[i]'(by rw [h.len]; exact hi)).cap) := by
  obtain ⟨b, off, e, _, hc⟩ := h.rd.2 (by omega)
  have hl := h.len
  have g := fun k hk => logOf_get l i k (by omega) hk
  refine ⟨b, off, e, ?_, ?_⟩
  · have := hc (i * 2 + 0) _ (g 0 (by omega)); exact this
  · have := hc (i * 2 + 1) _ (g 1 (by omega)); exact this
theorem Es.of_own {base : Nat} {e : TypeId} {c : Nat} (h : w.ownsRow base e 2 (.slice A n c) n (logOf l)) (ho : ∀ f ∈ l, f.Ok w) : Es w A n l := ⟨Rd.of_own h, ho⟩
theorem logOf_take (l : List EV) (k : Nat) : logOf (l.take k) = (logOf l).take (k * 2) := by
  induction l generalizing k with
  | nil => simp [logOf]
  | cons a r ih =>
    cases k with
    | zero => simp [logOf]
    | succ k =>
      have := ih k
      simp only [logOf, List.take_succ_cons, List.map_cons, List.flatten_cons] at this ⊢
      rw [this, show (k + 1) * 2 = a.cells.length + k * 2 by simp [EV.cells]; omega, List.take_length_add_append]
theorem logOf_drop (l : List EV) (k : Nat) : logOf (l.drop k) = (logOf l).drop (k * 2) := by
  induction l generalizing k with
  | nil => simp [logOf]
  | cons a r ih =>
    cases k with
    | zero => simp [logOf]
    | succ k =>
      have := ih k
      simp only [logOf, List.drop_succ_cons, List.map_cons, List.flatten_cons] at this ⊢
      rw [this, show (k + 1) * 2 = a.cells.length + k * 2 by simp [EV.cells]; omega, List.drop_length_add_append]
/-- l[:hi] -/
theorem Es.upto (h : Es w A n l) {hi : Nat} (hh : hi ≤ n) : Es w A hi (l.take hi) := by
  have := h.rd.part (lo := 0) (m := hi) (by omega) A (fun _ b off e => by simpa using e)
  refine ⟨?_, fun f hf => h.ok f (List.mem_of_mem_take hf)⟩
  rw [logOf_take]
  simpa using this
/-- l[lo:] -/
theorem Es.from_ (h : Es w A n l) {lo cap : Nat} (hlo : lo ≤ n) (hc : n ≤ cap) : Es w (if cap = lo then A else A.map (·.add (lo * 2))) (n - lo) (l.drop lo) := by
  have := h.rd.part (lo := lo) (m := n - lo) (by omega) (if cap = lo then A else A.map (·.add (lo * 2))) (fun hp b off e => by
    rw [if_neg (by omega), e]; simp [plain_add])
  refine ⟨?_, fun f hf => h.ok f (List.mem_of_mem_drop hf)⟩
  rw [logOf_drop]
  rwa [List.take_of_length_le (by rw [List.length_drop, h.rd.1, Nat.sub_mul]; exact Nat.le_refl _)] at this
end

/-- a state: floor, term, vote, log -/
structure SV where
  floor : Int
  term : Int
  vote : Int
  A : Option Addr
  n : Nat
  c : Nat
  l : List EV
def SV.val (s : SV) : Value := .agg #[.int .i64 s.floor, .int .i64 s.term, .int .i64 s.vote, .slice s.A s.n s.c]
structure SV.Ok (s : SV) (w : World) : Prop where
  es : Es w s.A s.n s.l
  le : s.n ≤ s.c
  cap : s.c ≤ maxLen
  u0 : I64 s.floor
  u1 : I64 s.term
  u2 : I64 s.vote
theorem SV.Ok.ext {s : SV} {w w' : World} (h : s.Ok w) (he : Ext w w') : s.Ok w' := ⟨h.es.ext he, h.le, h.cap, h.u0, h.u1, h.u2⟩

/-- a letter -/
structure LV where
  kind : Int
  src : Int
  dst : Int
  term : Int
  a : Int
  b : Int
  c : Int
  bin : Int
  ok : Bool
  A : Option Addr
  n : Nat
  cp : Nat
  l : List EV
def LV.val (x : LV) : Value := .agg #[.int .i64 x.kind, .int .i64 x.src, .int .i64 x.dst, .int .i64 x.term, .int .i64 x.a, .int .i64 x.b, .int .i64 x.c, .int .i64 x.bin, .bool x.ok, .slice x.A x.n x.cp]
structure LV.Ok (x : LV) (w : World) : Prop where
  es : Es w x.A x.n x.l
  le : x.n ≤ x.cp
  cap : x.cp ≤ maxLen
  u0 : I64 x.kind
  u1 : I64 x.src
  u2 : I64 x.dst
  u3 : I64 x.term
  u4 : I64 x.a
  u5 : I64 x.b
  u6 : I64 x.c
  u7 : I64 x.bin
theorem LV.Ok.ext {x : LV} {w w' : World} (h : x.Ok w) (he : Ext w w') : x.Ok w' := ⟨h.es.ext he, h.le, h.cap, h.u0, h.u1, h.u2, h.u3, h.u4, h.u5, h.u6, h.u7⟩

section
variable {H : Type} {enc : TypeId × Value → H} {P : Program} {w : World} {base b0 : Nat} {spare : Nat → Bool} {held : Bool} {r : Reach}
/-- the fields of a struct of one-cell fields, by their types -/
theorem Tr.typed {t : TypeId} {fs : Array Field} {ts : List TypeId} {cs : List Value} (ht : P.underlying t = some (.struct fs)) (hts : fs.toList.map (·.type) = ts) (hone : oneCellFields P fs = true) (hC : P.cellsOf t = ts.length) (h : Tr enc P w base spare held t cs) :
    cs.length = ts.length ∧ ∀ (j : Nat) (u : TypeId), ts[j]? = some u → ∃ v, cs[j]? = some v ∧ Tr enc P w base spare held u [v] := by
  have hsz : fs.size = ts.length := by rw [← hts]; simp
  obtain ⟨hl, hf⟩ := h.fields ht hone (by rw [hC, hsz])
  refine ⟨by omega, fun j u hu => ?_⟩
  rw [← hts, List.getElem?_map] at hu
  obtain ⟨f, hfj, rfl⟩ := Option.map_eq_some_iff.1 hu
  exact hf j f (by simpa using hfj)
theorem Tr.i64 {t : TypeId} {v : Value} (ht : P.underlying t = some (.int .i64)) (h : Tr enc P w base spare held t [v]) : ∃ n, v = .int .i64 n ∧ I64 n := by
  obtain ⟨n, rfl, hw⟩ := h.int ht
  exact ⟨n, rfl, I64.of_wf hw⟩

/-- a row of entries -/
theorem Tr.entries {t e ti tb tn : TypeId} {fs : Array Field} {v : Value} (ht : P.underlying t = some (.slice e)) (he : P.underlying e = some (.struct fs)) (hts : fs.toList.map (·.type) = [ti, tb]) (hone : oneCellFields P fs = true) (hC : P.cellsOf e = 2)
    (hi : P.underlying ti = some (.int .i64)) (hb : P.underlying tb = some (.slice tn)) (hn : P.underlying tn = some (.int .u8)) (hcn : P.cellsOf tn = 1)
    (h : Tr enc P w base spare held t [v]) : ∃ A n c l, v = .slice A n c ∧ Es w A n l ∧ n ≤ c ∧ c ≤ maxLen := by
  obtain ⟨A, n, c, rows, hvv, hnc, hcm, hrl, hrows, hrd⟩ := h.slice ht hC (by omega)
  obtain ⟨l, hl, hok⟩ := list_map_of EV.cells (fun f => f.Ok w) rows (fun row hr => by
    obtain ⟨hlen, htr⟩ := hrows row hr
    obtain ⟨_, hf⟩ := htr.typed he hts hone hC
    match row, hlen with
    | [x0, x1], _ =>
      obtain ⟨v0, e0, t0⟩ := hf 0 ti rfl
      obtain ⟨v1, e1, t1⟩ := hf 1 tb rfl
      simp only [List.getElem?_cons_zero, List.getElem?_cons_succ, Option.some.injEq] at e0 e1
      subst e0 e1
      obtain ⟨a, rfl, ha⟩ := t0.i64 hi
      obtain ⟨B, k, q, bs, rfl, hbs, hk, hq⟩ := t1.bytes hb hn hcn
      exact ⟨⟨a, B, k, q, bs⟩, rfl, ⟨hbs, hk, hq, ha⟩⟩)
  exact ⟨A, n, c, l, hvv, ⟨by rw [hl] at hrd; exact hrd, hok⟩, hnc, hcm⟩
theorem open_entries {t e ti tb tn : TypeId} {fs : Array Field} {v : Value} {d : DataW H} {p : List MemPlace} (ht : P.underlying t = some (.slice e)) (he : P.underlying e = some (.struct fs)) (hts : fs.toList.map (·.type) = [ti, tb]) (hone : oneCellFields P fs = true) (hC : P.cellsOf e = 2)
    (hi : P.underlying ti = some (.int .i64)) (hb : P.underlying tb = some (.slice tn)) (hn : P.underlying tn = some (.int .u8)) (hcn : P.cellsOf tn = 1)
    (hv : Value.okWide P w r b0 t v) (h : DataW.Trod enc P w base spare held t v d p) : ∃ A n c l, v = .slice A n c ∧ Es w A n l ∧ n ≤ c ∧ c ≤ maxLen :=
  (open_slice_val ht hv h).entries ht he hts hone hC hi hb hn hcn
/-- a state that is an argument -/
theorem open_stable {ts t e ti tb tn : TypeId} {gs fs : Array Field} {v : Value} {d : DataW H} {p : List MemPlace}
    (hs : P.underlying ts = some (.struct gs)) (hgs : gs.toList.map (·.type) = [ti, ti, ti, t]) (hones : oneCellFields P gs = true) (hCs : P.cellsOf ts = 4)
    (ht : P.underlying t = some (.slice e)) (he : P.underlying e = some (.struct fs)) (hts : fs.toList.map (·.type) = [ti, tb]) (hone : oneCellFields P fs = true) (hC : P.cellsOf e = 2)
    (hi : P.underlying ti = some (.int .i64)) (hb : P.underlying tb = some (.slice tn)) (hn : P.underlying tn = some (.int .u8)) (hcn : P.cellsOf tn = 1)
    (hv : Value.okWide P w r b0 ts v) (h : DataW.Trod enc P w base spare held ts v d p) : ∃ s : SV, v = s.val ∧ s.Ok w := by
  obtain ⟨cs, rfl, htr⟩ := open_struct hs hv h
  obtain ⟨hlen, hf⟩ := htr.typed hs hgs hones hCs
  match cs, hlen with
  | [x0, x1, x2, x3], _ =>
    obtain ⟨v0, e0, t0⟩ := hf 0 ti rfl
    obtain ⟨v1, e1, t1⟩ := hf 1 ti rfl
    obtain ⟨v2, e2, t2⟩ := hf 2 ti rfl
    obtain ⟨v3, e3, t3⟩ := hf 3 t rfl
    simp only [List.getElem?_cons_zero, List.getElem?_cons_succ, Option.some.injEq] at e0 e1 e2 e3
    subst e0 e1 e2 e3
    obtain ⟨a0, rfl, h0⟩ := t0.i64 hi
    obtain ⟨a1, rfl, h1⟩ := t1.i64 hi
    obtain ⟨a2, rfl, h2⟩ := t2.i64 hi
    obtain ⟨A, n, c, l, rfl, hE, hnc, hcm⟩ := t3.entries ht he hts hone hC hi hb hn hcn
    exact ⟨⟨a0, a1, a2, A, n, c, l⟩, rfl, ⟨hE, hnc, hcm, h0, h1, h2⟩⟩
/-- a letter that is an argument -/
theorem open_letter {ts tq t e ti tb tn : TypeId} {gs fs : Array Field} {v : Value} {d : DataW H} {p : List MemPlace}
    (hs : P.underlying ts = some (.struct gs)) (hgs : gs.toList.map (·.type) = [ti, ti, ti, ti, ti, ti, ti, ti, tq, t]) (hones : oneCellFields P gs = true) (hCs : P.cellsOf ts = 10) (hq : P.underlying tq = some .bool)
    (ht : P.underlying t = some (.slice e)) (he : P.underlying e = some (.struct fs)) (hts : fs.toList.map (·.type) = [ti, tb]) (hone : oneCellFields P fs = true) (hC : P.cellsOf e = 2)
    (hi : P.underlying ti = some (.int .i64)) (hb : P.underlying tb = some (.slice tn)) (hn : P.underlying tn = some (.int .u8)) (hcn : P.cellsOf tn = 1)
    (hv : Value.okWide P w r b0 ts v) (h : DataW.Trod enc P w base spare held ts v d p) : ∃ x : LV, v = x.val ∧ x.Ok w := by
  obtain ⟨cs, rfl, htr⟩ := open_struct hs hv h
  obtain ⟨hlen, hf⟩ := htr.typed hs hgs hones hCs
  match cs, hlen with
  | [x0, x1, x2, x3, x4, x5, x6, x7, x8, x9], _ =>
    obtain ⟨v0, e0, t0⟩ := hf 0 ti rfl
    obtain ⟨v1, e1, t1⟩ := hf 1 ti rfl
    obtain ⟨v2, e2, t2⟩ := hf 2 ti rfl
    obtain ⟨v3, e3, t3⟩ := hf 3 ti rfl
    obtain ⟨v4, e4, t4⟩ := hf 4 ti rfl
    obtain ⟨v5, e5, t5⟩ := hf 5 ti rfl
    obtain ⟨v6, e6, t6⟩ := hf 6 ti rfl
    obtain ⟨v7, e7, t7⟩ := hf 7 ti rfl
    obtain ⟨v8, e8, t8⟩ := hf 8 tq rfl
    obtain ⟨v9, e9, t9⟩ := hf 9 t rfl
    simp only [List.getElem?_cons_zero, List.getElem?_cons_succ, Option.some.injEq] at e0 e1 e2 e3 e4 e5 e6 e7 e8 e9
    subst e0 e1 e2 e3 e4 e5 e6 e7 e8 e9
    obtain ⟨a0, rfl, h0⟩ := t0.i64 hi
    obtain ⟨a1, rfl, h1⟩ := t1.i64 hi
    obtain ⟨a2, rfl, h2⟩ := t2.i64 hi
    obtain ⟨a3, rfl, h3⟩ := t3.i64 hi
    obtain ⟨a4, rfl, h4⟩ := t4.i64 hi
    obtain ⟨a5, rfl, h5⟩ := t5.i64 hi
    obtain ⟨a6, rfl, h6⟩ := t6.i64 hi
    obtain ⟨a7, rfl, h7⟩ := t7.i64 hi
    obtain ⟨q, rfl⟩ := t8.bool hq
    obtain ⟨A, n, c, l, rfl, hE, hnc, hcm⟩ := t9.entries ht he hts hone hC hi hb hn hcn
    exact ⟨⟨a0, a1, a2, a3, a4, a5, a6, a7, q, A, n, c, l⟩, rfl, ⟨hE, hnc, hcm, h0, h1, h2, h3, h4, h5, h6, h7⟩⟩
end
end Go.Proofs.YtiildgoaiookhaaGreat

/- A catalogue as a value: its clients, open backups and snapshots; rows of them in memory. No program in sight. -/
namespace Go.Proofs.YtiildgoaiookhaaGreat
open Go.RowKit Go.Deep Go.ChangeShapes Go.WideShapes

/-! a row of one-cell elements -/
/-- The slice of n ints at A reads as l. -/
def Is (w : World) (A : Option Addr) (n : Nat) (l : List Int) : Prop := Rd w A n 1 (l.map (Value.int .i64))
section
variable {w w' : World} {n : Nat} {A : Option Addr} {l : List Int}
theorem Is.len (h : Is w A n l) : l.length = n := by have := h.1; simpa using this
theorem Is.ext (h : Is w A n l) (he : Ext w w') : Is w' A n l := Rd.ext h he
theorem Is.nil_ (w : World) (A : Option Addr) : Is w A 0 [] := Rd.nil_ w A 1
theorem Is.at_ (h : Is w A n l) {k : Nat} (hk : k < n) : ∃ b off, A = some ⟨b, off, none⟩ ∧ w.cell? ⟨b, off + k, none⟩ = some (.int .i64 (l[k]'(by rw [h.len]; exact hk))) := by
  obtain ⟨b, off, e, _, hc⟩ := h.2 (by omega)
  refine ⟨b, off, e, hc k _ ?_⟩
  rw [List.getElem?_map, List.getElem?_eq_getElem (by rw [h.len]; exact hk)]
  rfl
theorem Is.part (h : Is w A n l) {lo m : Nat} (hm : lo + m ≤ n) (A' : Option Addr) (hA : 0 < m → ∀ b off, A = some ⟨b, off, none⟩ → A' = some ⟨b, off + lo, none⟩) :
    Is w A' m ((l.drop lo).take m) := by
  have := Rd.part h hm A' (by simpa using hA)
  simpa [Is, List.map_take, List.map_drop] using this
theorem Is.upto (h : Is w A n l) {hi : Nat} (hh : hi ≤ n) : Is w A hi (l.take hi) := by
  have := h.part (lo := 0) (m := hi) (by omega) A (fun _ b off e => by simpa using e)
  simpa using this
theorem Is.of_own {base : Nat} {e : TypeId} {c : Nat} (h : w.ownsRow base e 1 (.slice A n c) n (l.map (Value.int .i64))) : Is w A n l := Rd.of_own h
end
theorem ints_one (l : List Int) : ∀ u ∈ l.map (Value.int .i64), u.oneCell' = true := by
  intro u hu; obtain ⟨x, _, rfl⟩ := List.mem_map.1 hu; rfl

/-! rows of things of several cells, once for all -/
/-- things of size cells, that are there -/
class Thing (α : Type) (size : outParam Nat) where
  cells : α → List Value
  ok : α → World → Prop
  len : ∀ x, (cells x).length = size
  one : ∀ x, ∀ u ∈ cells x, u.oneCell' = true
  ext : ∀ {x w w'}, ok x w → Ext w w' → ok x w'
section
variable {α : Type} {size : Nat} [T : Thing α size]
def thingsOf (l : List α) : List Value := (l.map T.cells).flatten
theorem thingsOf_len (l : List α) : (thingsOf l).length = l.length * size := by
  have := flatten_len (size := size) (l.map T.cells) (by intro r hr; obtain ⟨f, _, rfl⟩ := List.mem_map.1 hr; exact T.len f)
  simpa [thingsOf] using this
theorem thingsOf_get (l : List α) (i k : Nat) (hi : i < l.length) (hk : k < size) : (thingsOf l)[i * size + k]? = (T.cells l[i])[k]? := by
  have := flatten_get (size := size) (l.map T.cells) (by intro r hr; obtain ⟨f, _, rfl⟩ := List.mem_map.1 hr; exact T.len f) i k hk
  rw [thingsOf, this, List.getElem?_map, List.getElem?_eq_getElem hi]; rfl
theorem thingsOf_append (l m : List α) : thingsOf (l ++ m) = thingsOf l ++ thingsOf m := by simp [thingsOf]
theorem thingsOf_one (f : α) : thingsOf [f] = T.cells f := by simp [thingsOf]
theorem thingsOf_nil : thingsOf ([] : List α) = [] := rfl
theorem thingsOf_cells (l : List α) : ∀ u ∈ thingsOf l, u.oneCell' = true := by
  intro u hu
  obtain ⟨r, hr, hu⟩ := List.mem_flatten.1 hu
  obtain ⟨f, _, rfl⟩ := List.mem_map.1 hr
  exact T.one f u hu
theorem thingsOf_drop (l : List α) (k : Nat) : thingsOf (l.drop k) = (thingsOf l).drop (k * size) := by
  by_cases hk : k ≤ l.length
  · have h := thingsOf_append (l.take k) (l.drop k)
    rw [List.take_append_drop] at h
    rw [h, List.drop_left' (by rw [thingsOf_len, List.length_take]; congr 1; omega)]
  · rw [List.drop_of_length_le (by omega), List.drop_of_length_le (by rw [thingsOf_len]; exact Nat.mul_le_mul_right _ (by omega)), thingsOf_nil]
theorem thingsOf_take (l : List α) (k : Nat) : thingsOf (l.take k) = (thingsOf l).take (k * size) := by
  by_cases hk : k ≤ l.length
  · have h := thingsOf_append (l.take k) (l.drop k)
    rw [List.take_append_drop] at h
    rw [h, List.take_left' (by rw [thingsOf_len, List.length_take]; congr 1; omega)]
  · rw [List.take_of_length_le (by omega), List.take_of_length_le (by rw [thingsOf_len]; exact Nat.mul_le_mul_right _ (by omega))]

/-- The slice of n things at A reads as l, and they are there. -/
structure Ts (w : World) (A : Option Addr) (n : Nat) (l : List α) : Prop where
  rd : Rd w A n size (thingsOf l)
  ok : ∀ f ∈ l, T.ok f w
  pos : 0 < size
variable {w w' : World} {A : Option Addr} {n : Nat} {l : List α}
theorem Ts.len (h : Ts w A n l) : l.length = n := by
  have := h.rd.1; rw [thingsOf_len] at this; exact Nat.eq_of_mul_eq_mul_right h.pos this
theorem Ts.ext (h : Ts w A n l) (he : Ext w w') : Ts w' A n l := ⟨h.rd.ext he, fun f hf => T.ext (h.ok f hf) he, h.pos⟩
theorem Ts.nil_ (w : World) (A : Option Addr) (hp : 0 < size) : Ts w A 0 ([] : List α) := ⟨Rd.nil_ w A size, by simp, hp⟩
theorem Ts.at_ (h : Ts w A n l) {i : Nat} (hi : i < n) : ∃ b off, A = some ⟨b, off, none⟩ ∧ b < w.heap.size ∧ ∀ k, k < size → w.cell? ⟨b, off + i * size + k, none⟩ = (T.cells (l[i]'(by rw [h.len]; exact hi)))[k]? := by
  obtain ⟨b, off, e, hb, hc⟩ := h.rd.2 (by omega)
  have hl := h.len
  refine ⟨b, off, e, hb, fun k hk => ?_⟩
  have g := thingsOf_get l i k (by omega) hk
  have hs : k < (T.cells (l[i]'(by omega))).length := by rw [T.len]; exact hk
  rw [List.getElem?_eq_getElem hs] at g ⊢
  rw [Nat.add_assoc]
  exact hc _ _ g
theorem Ts.of_own {base : Nat} {e : TypeId} {c : Nat} (h : w.ownsRow base e size (.slice A n c) n (thingsOf l)) (ho : ∀ f ∈ l, T.ok f w) (hp : 0 < size) : Ts w A n l := ⟨Rd.of_own h, ho, hp⟩
theorem Ts.upto (h : Ts w A n l) {hi : Nat} (hh : hi ≤ n) : Ts w A hi (l.take hi) := by
  have := h.rd.part (lo := 0) (m := hi) (by omega) A (fun _ b off e => by simpa using e)
  simp only [Nat.zero_mul, List.drop_zero] at this
  rw [← thingsOf_take] at this
  exact ⟨this, fun f hf => h.ok f (List.mem_of_mem_take hf), h.pos⟩
theorem Ts.from_ (h : Ts w A n l) {lo cap : Nat} (hlo : lo ≤ n) (hc : n ≤ cap) : Ts w (if cap = lo then A else A.map (·.add (lo * size))) (n - lo) (l.drop lo) := by
  have := h.rd.part (lo := lo) (m := n - lo) (by omega) (if cap = lo then A else A.map (·.add (lo * size))) (fun hp b off e => by
    rw [if_neg (by omega), e]; simp [plain_add])
  rw [List.take_of_length_le (by rw [List.length_drop, thingsOf_len, h.len, ← Nat.sub_mul]; exact Nat.le_refl _), ← thingsOf_drop] at this
  exact ⟨this, fun f hf => h.ok f (List.mem_of_mem_drop hf), h.pos⟩
end

/-! clients, open backups, snapshots -/
structure CV where
  client : Int
  seq : Int
  code : Int
  n : Int
deriving DecidableEq
def CV.cells (f : CV) : List Value := [.int .i64 f.client, .int .i64 f.seq, .int .i64 f.code, .int .i64 f.n]
structure CV.Ok (f : CV) (_ : World) : Prop where
  u0 : I64 f.client
  u1 : I64 f.seq
  u2 : I64 f.code
  u3 : I64 f.n
instance : Thing CV 4 where
  cells := CV.cells
  ok := CV.Ok
  len := fun _ => rfl
  one := fun f u hu => by
    simp only [CV.cells, List.mem_cons, List.not_mem_nil, or_false] at hu
    rcases hu with rfl | rfl | rfl | rfl <;> rfl
  ext := fun h _ => ⟨h.u0, h.u1, h.u2, h.u3⟩
structure OV where
  set : Int
  client : Int
deriving DecidableEq
def OV.cells (f : OV) : List Value := [.int .i64 f.set, .int .i64 f.client]
structure OV.Ok (f : OV) (_ : World) : Prop where
  u0 : I64 f.set
  u1 : I64 f.client
instance : Thing OV 2 where
  cells := OV.cells
  ok := OV.Ok
  len := fun _ => rfl
  one := fun f u hu => by
    simp only [OV.cells, List.mem_cons, List.not_mem_nil, or_false] at hu
    rcases hu with rfl | rfl <;> rfl
  ext := fun h _ => ⟨h.u0, h.u1⟩
structure NV where
  id : Int
  set : Int
  A : Option Addr
  len : Nat
  cap : Nat
  ch : List Int
  held : Bool
  tag : ByteArray
def NV.cells (f : NV) : List Value := [.int .i64 f.id, .int .i64 f.set, .slice f.A f.len f.cap, .bool f.held, .string f.tag]
structure NV.Ok (f : NV) (w : World) : Prop where
  u0 : I64 f.id
  u1 : I64 f.set
  cs : Is w f.A f.len f.ch
  le : f.len ≤ f.cap
  cap : f.cap ≤ maxLen
  uc : ∀ x ∈ f.ch, I64 x
  ut : f.tag.size ≤ maxLen
theorem NV.Ok.ext {f : NV} {w w' : World} (h : f.Ok w) (he : Ext w w') : f.Ok w' := ⟨h.u0, h.u1, h.cs.ext he, h.le, h.cap, h.uc, h.ut⟩
instance : Thing NV 5 where
  cells := NV.cells
  ok := NV.Ok
  len := fun _ => rfl
  one := fun f u hu => by
    simp only [NV.cells, List.mem_cons, List.not_mem_nil, or_false] at hu
    rcases hu with rfl | rfl | rfl | rfl | rfl <;> rfl
  ext := fun h he => h.ext he
/-- a catalogue -/
structure KV where
  ver : Int
  next : Int
  keep : Int
  quota : Int
  A1 : Option Addr
  n1 : Nat
  c1 : Nat
  ses : List CV
  A2 : Option Addr
  n2 : Nat
  c2 : Nat
  ops : List OV
  A3 : Option Addr
  n3 : Nat
  c3 : Nat
  sns : List NV
def KV.cells (s : KV) : List Value := [.int .i64 s.ver, .int .i64 s.next, .int .i64 s.keep, .int .i64 s.quota, .slice s.A1 s.n1 s.c1, .slice s.A2 s.n2 s.c2, .slice s.A3 s.n3 s.c3]
def KV.val (s : KV) : Value := .agg #[.int .i64 s.ver, .int .i64 s.next, .int .i64 s.keep, .int .i64 s.quota, .slice s.A1 s.n1 s.c1, .slice s.A2 s.n2 s.c2, .slice s.A3 s.n3 s.c3]
structure KV.Ok (s : KV) (w : World) : Prop where
  u0 : I64 s.ver
  u1 : I64 s.next
  u2 : I64 s.keep
  u3 : I64 s.quota
  t1 : Ts w s.A1 s.n1 s.ses
  le1 : s.n1 ≤ s.c1
  cap1 : s.c1 ≤ maxLen
  t2 : Ts w s.A2 s.n2 s.ops
  le2 : s.n2 ≤ s.c2
  cap2 : s.c2 ≤ maxLen
  t3 : Ts w s.A3 s.n3 s.sns
  le3 : s.n3 ≤ s.c3
  cap3 : s.c3 ≤ maxLen
theorem KV.Ok.ext {s : KV} {w w' : World} (h : s.Ok w) (he : Ext w w') : s.Ok w' := ⟨h.u0, h.u1, h.u2, h.u3, h.t1.ext he, h.le1, h.cap1, h.t2.ext he, h.le2, h.cap2, h.t3.ext he, h.le3, h.cap3⟩

section
variable {H : Type} {enc : TypeId × Value → H} {P : Program} {w : World} {base b0 : Nat} {spare : Nat → Bool} {held : Bool} {r : Reach}
/-- the parts of a struct -/
theorem Tr.parts {t : TypeId} {fs : Array Field} {cs : List Value} (ht : P.underlying t = some (.struct fs)) (h : Tr enc P w base spare held t cs) :
    cs.length = P.cellsOf t ∧ ∀ (j : Nat) (f : Field), fs[j]? = some f → Tr enc P w base spare held f.type ((cs.drop f.offset).take (P.cellsOf f.type)) := by
  obtain ⟨fuel, x, h⟩ := h
  obtain ⟨ys, n, _, _, hlen, hyl, hf⟩ := DataW.trod_struct ht h
  refine ⟨hlen, fun j f hj => ?_⟩
  have hjl : j < fs.size := (Array.getElem?_eq_some_iff.1 hj).1
  have h1 := hf j f hj
  rw [List.getElem?_eq_getElem (by omega)] at h1
  exact ⟨n, _, h1⟩
theorem Tr.str {t : TypeId} {v : Value} (ht : P.underlying t = some .string) (h : Tr enc P w base spare held t [v]) : ∃ s : ByteArray, v = .string s ∧ s.size ≤ maxLen := by
  obtain ⟨fuel, x, h⟩ := h
  obtain ⟨s, hc, _, hs⟩ := DataW.trod_string ht h
  exact ⟨s, by simpa using hc, hs⟩
theorem Tr.ints {t e : TypeId} {v : Value} (ht : P.underlying t = some (.slice e)) (he : P.underlying e = some (.int .i64)) (hC : P.cellsOf e = 1) (h : Tr enc P w base spare held t [v]) : ∃ A n c l, v = .slice A n c ∧ Is w A n l ∧ n ≤ c ∧ c ≤ maxLen ∧ ∀ x ∈ l, I64 x := by
  obtain ⟨A, n, c, rows, hvv, hnc, hcm, hrl, hrows, hrd⟩ := h.slice ht hC (by omega)
  obtain ⟨l, hl, hk⟩ := list_map_of (fun b => [Value.int .i64 b]) I64 rows (fun row hr => by
    obtain ⟨hlen, htr⟩ := hrows row hr
    match row, hlen with
    | [x0], _ =>
      obtain ⟨b, rfl, hb⟩ := htr.i64 he
      exact ⟨b, rfl, hb⟩)
  refine ⟨A, n, c, l, hvv, ?_, hnc, hcm, hk⟩
  rw [hl] at hrd
  have : (l.map fun b => [Value.int .i64 b]).flatten = l.map (Value.int .i64) := by
    clear hl hk hrd
    induction l with
    | nil => rfl
    | cons a r ih => simp only [List.map_cons, List.flatten_cons, ih]; rfl
  rw [this] at hrd
  exact hrd
theorem open_ints' {t e : TypeId} {v : Value} {d : DataW H} {p : List MemPlace} (ht : P.underlying t = some (.slice e)) (he : P.underlying e = some (.int .i64)) (hC : P.cellsOf e = 1)
    (hv : Value.okWide P w r b0 t v) (h : DataW.Trod enc P w base spare held t v d p) : ∃ A n c l, v = .slice A n c ∧ Is w A n l ∧ n ≤ c ∧ c ≤ maxLen ∧ ∀ x ∈ l, I64 x := (open_slice_val ht hv h).ints ht he hC
/-- a slice of things -/
theorem Tr.things {α : Type} {size : Nat} [T : Thing α size] {t e : TypeId} {v : Value} (ht : P.underlying t = some (.slice e)) (hC : P.cellsOf e = size) (hp : 0 < size)
    (hx : ∀ row : List Value, row.length = size → Tr enc P w base spare held e row → ∃ x : α, row = T.cells x ∧ T.ok x w) (h : Tr enc P w base spare held t [v]) :
    ∃ A n c, ∃ l : List α, v = .slice A n c ∧ Ts w A n l ∧ n ≤ c ∧ c ≤ maxLen := by
  obtain ⟨A, n, c, rows, hvv, hnc, hcm, hrl, hrows, hrd⟩ := h.slice ht hC hp
  obtain ⟨l, hl, hk⟩ := list_map_of T.cells (fun f => T.ok f w) rows (fun row hr => hx row (hrows row hr).1 (hrows row hr).2)
  exact ⟨A, n, c, l, hvv, ⟨by rw [hl] at hrd; exact hrd, hk, hp⟩, hnc, hcm⟩

/-- what the types of a catalogue are: the numbers of types are letters -/
structure CatT (P : Program) (ts t1 e1 tr te ti t2 e2 t3 e3 tc tb tg : TypeId) : Prop where
  s : ∃ fs : Array Field, P.underlying ts = some (.struct fs) ∧ fs.toList.map (·.type) = [ti, ti, ti, ti, t1, t2, t3] ∧ oneCellFields P fs = true ∧ P.cellsOf ts = 7
  s1 : P.underlying t1 = some (.slice e1)
  f1 : ∃ a b c : Field, P.underlying e1 = some (.struct #[a, b, c]) ∧ a.type = ti ∧ b.type = ti ∧ c.type = tr ∧ a.offset = 0 ∧ b.offset = 1 ∧ c.offset = 2
  c1 : P.cellsOf e1 = 4
  r1 : ∃ a b : Field, P.underlying tr = some (.struct #[a, b]) ∧ a.type = te ∧ b.type = ti ∧ a.offset = 0 ∧ b.offset = 1
  cr : P.cellsOf tr = 2
  ce : P.cellsOf te = 1
  ci : P.cellsOf ti = 1
  ue : P.underlying te = some (.int .i64)
  ui : P.underlying ti = some (.int .i64)
  s2 : P.underlying t2 = some (.slice e2)
  f2 : ∃ fs : Array Field, P.underlying e2 = some (.struct fs) ∧ fs.toList.map (·.type) = [ti, ti] ∧ oneCellFields P fs = true ∧ P.cellsOf e2 = 2
  s3 : P.underlying t3 = some (.slice e3)
  f3 : ∃ fs : Array Field, P.underlying e3 = some (.struct fs) ∧ fs.toList.map (·.type) = [ti, ti, tc, tb, tg] ∧ oneCellFields P fs = true ∧ P.cellsOf e3 = 5
  sc : P.underlying tc = some (.slice ti)
  ub : P.underlying tb = some .bool
  ug : P.underlying tg = some .string
variable {ts t1 e1 tr te ti t2 e2 t3 e3 tc tb tg : TypeId}
theorem Tr.sess (C : CatT P ts t1 e1 tr te ti t2 e2 t3 e3 tc tb tg) {cs : List Value} (hl : cs.length = 4) (h : Tr enc P w base spare held e1 cs) : ∃ x : CV, cs = x.cells ∧ x.Ok w := by
  obtain ⟨a, b, c, h1, ha, hb, hc, oa, ob, oc⟩ := C.f1
  obtain ⟨_, hf⟩ := h.parts h1
  have p0 := hf 0 a rfl
  have p1 := hf 1 b rfl
  have p2 := hf 2 c rfl
  rw [ha, oa, C.ci] at p0
  rw [hb, ob, C.ci] at p1
  rw [hc, oc, C.cr] at p2
  match cs, hl with
  | [x0, x1, x2, x3], _ =>
    obtain ⟨a0, rfl, k0⟩ := Tr.i64 C.ui p0
    obtain ⟨a1, rfl, k1⟩ := Tr.i64 C.ui p1
    obtain ⟨d, f, r1, rd, rf, od, of⟩ := C.r1
    obtain ⟨_, hg⟩ := p2.parts r1
    have q0 := hg 0 d rfl
    have q1 := hg 1 f rfl
    rw [rd, od, C.ce] at q0
    rw [rf, of, C.ci] at q1
    obtain ⟨a2, rfl, k2⟩ := Tr.i64 C.ue q0
    obtain ⟨a3, rfl, k3⟩ := Tr.i64 C.ui q1
    exact ⟨⟨a0, a1, a2, a3⟩, rfl, ⟨k0, k1, k2, k3⟩⟩
theorem Tr.open_ (C : CatT P ts t1 e1 tr te ti t2 e2 t3 e3 tc tb tg) {cs : List Value} (hl : cs.length = 2) (h : Tr enc P w base spare held e2 cs) : ∃ x : OV, cs = x.cells ∧ x.Ok w := by
  obtain ⟨fs, h1, h2, h3, h4⟩ := C.f2
  obtain ⟨_, hf⟩ := h.typed h1 h2 h3 h4
  match cs, hl with
  | [x0, x1], _ =>
    obtain ⟨v0, e0, t0⟩ := hf 0 ti rfl
    obtain ⟨v1, e1, t1⟩ := hf 1 ti rfl
    simp only [List.getElem?_cons_zero, List.getElem?_cons_succ, Option.some.injEq] at e0 e1
    subst e0 e1
    obtain ⟨a0, rfl, k0⟩ := t0.i64 C.ui
    obtain ⟨a1, rfl, k1⟩ := t1.i64 C.ui
    exact ⟨⟨a0, a1⟩, rfl, ⟨k0, k1⟩⟩
theorem Tr.snap (C : CatT P ts t1 e1 tr te ti t2 e2 t3 e3 tc tb tg) {cs : List Value} (hl : cs.length = 5) (h : Tr enc P w base spare held e3 cs) : ∃ x : NV, cs = x.cells ∧ x.Ok w := by
  obtain ⟨fs, h1, h2, h3, h4⟩ := C.f3
  obtain ⟨_, hf⟩ := h.typed h1 h2 h3 h4
  match cs, hl with
  | [x0, x1, x2, x3, x4], _ =>
    obtain ⟨v0, e0, t0⟩ := hf 0 ti rfl
    obtain ⟨v1, e1, t1⟩ := hf 1 ti rfl
    obtain ⟨v2, e2, t2⟩ := hf 2 tc rfl
    obtain ⟨v3, e3, t3⟩ := hf 3 tb rfl
    obtain ⟨v4, e4, t4⟩ := hf 4 tg rfl
    simp only [List.getElem?_cons_zero, List.getElem?_cons_succ, Option.some.injEq] at e0 e1 e2 e3 e4
    subst e0 e1 e2 e3 e4
    obtain ⟨a0, rfl, k0⟩ := t0.i64 C.ui
    obtain ⟨a1, rfl, k1⟩ := t1.i64 C.ui
    obtain ⟨A, n, c, l, rfl, g1, g2, g3, g4⟩ := t2.ints C.sc C.ui C.ci
    obtain ⟨q, rfl⟩ := t3.bool C.ub
    obtain ⟨s, rfl, hs⟩ := t4.str C.ug
    exact ⟨⟨a0, a1, A, n, c, l, q, s⟩, rfl, ⟨k0, k1, g1, g2, g3, g4, hs⟩⟩
/-- a catalogue that is an argument -/
theorem open_state (C : CatT P ts t1 e1 tr te ti t2 e2 t3 e3 tc tb tg) {v : Value} {d : DataW H} {p : List MemPlace}
    (hv : Value.okWide P w r b0 ts v) (h : DataW.Trod enc P w base spare held ts v d p) : ∃ s : KV, v = s.val ∧ s.Ok w := by
  obtain ⟨gs, hs, hgs, hones, hCs⟩ := C.s
  obtain ⟨cs, rfl, htr⟩ := open_struct hs hv h
  obtain ⟨hlen, hf⟩ := htr.typed hs hgs hones hCs
  match cs, hlen with
  | [x0, x1, x2, x3, x4, x5, x6], _ =>
    obtain ⟨v0, e0, p0⟩ := hf 0 ti rfl
    obtain ⟨v1, e1, p1⟩ := hf 1 ti rfl
    obtain ⟨v2, e2, p2⟩ := hf 2 ti rfl
    obtain ⟨v3, e3, p3⟩ := hf 3 ti rfl
    obtain ⟨v4, e4, p4⟩ := hf 4 t1 rfl
    obtain ⟨v5, e5, p5⟩ := hf 5 t2 rfl
    obtain ⟨v6, e6, p6⟩ := hf 6 t3 rfl
    simp only [List.getElem?_cons_zero, List.getElem?_cons_succ, Option.some.injEq] at e0 e1 e2 e3 e4 e5 e6
    subst e0 e1 e2 e3 e4 e5 e6
    obtain ⟨a0, rfl, k0⟩ := p0.i64 C.ui
    obtain ⟨a1, rfl, k1⟩ := p1.i64 C.ui
    obtain ⟨a2, rfl, k2⟩ := p2.i64 C.ui
    obtain ⟨a3, rfl, k3⟩ := p3.i64 C.ui
    obtain ⟨fa, fb, fc, g2⟩ := C.f1
    obtain ⟨f2, h21, h22, h23, h24⟩ := C.f2
    obtain ⟨f3, h31, h32, h33, h34⟩ := C.f3
    obtain ⟨A1, n1, c1, l1, rfl, b1, b2, b3⟩ := p4.things (α := CV) C.s1 C.c1 (by omega) (fun row hl ht => Tr.sess C hl ht)
    obtain ⟨A2, n2, c2, l2, rfl, b4, b5, b6⟩ := p5.things (α := OV) C.s2 h24 (by omega) (fun row hl ht => Tr.open_ C hl ht)
    obtain ⟨A3, n3, c3, l3, rfl, b7, b8, b9⟩ := p6.things (α := NV) C.s3 h34 (by omega) (fun row hl ht => Tr.snap C hl ht)
    exact ⟨⟨a0, a1, a2, a3, A1, n1, c1, l1, A2, n2, c2, l2, A3, n3, c3, l3⟩, rfl, ⟨k0, k1, k2, k3, b1, b2, b3, b4, b5, b6, b7, b8, b9⟩⟩
end
end Go.Proofs.YtiildgoaiookhaaGreat

/- A field of a row as a value, and a row of them in memory. No program in sight. -/
namespace Go.Proofs.YtiildgoaiookhaaGreat
open Go.RowKit Go.Deep Go.ChangeShapes Go.WideShapes

/-- a field: its number, kind, number, and bytes with where they lie -/
structure FV where
  num : Int
  wire : Int
  n : Nat
  A : Option Addr
  len : Nat
  cap : Nat
  b : List UInt8
def FV.cells (f : FV) : List Value := [.int .i64 f.num, .int .i64 f.wire, .int .u64 f.n, .slice f.A f.len f.cap]
def FV.val (f : FV) : Value := .agg #[.int .i64 f.num, .int .i64 f.wire, .int .u64 f.n, .slice f.A f.len f.cap]
/-- its bytes lie there -/
structure FV.Ok (f : FV) (w : World) : Prop where
  bs : Bs w f.A f.len f.b
  le : f.len ≤ f.cap
  cap : f.cap ≤ maxLen
  u : U64 f.n
theorem FV.Ok.ext {f : FV} {w w' : World} (h : f.Ok w) (he : Ext w w') : f.Ok w' := ⟨h.bs.ext he, h.le, h.cap, h.u⟩
theorem FV.cells_len (f : FV) : f.cells.length = 4 := rfl
theorem FV.cells_one (f : FV) : ∀ u ∈ f.cells, u.oneCell' = true := by
  intro u hu
  simp only [FV.cells, List.mem_cons, List.not_mem_nil, or_false] at hu
  rcases hu with rfl | rfl | rfl | rfl <;> rfl
def rowOf (l : List FV) : List Value := (l.map FV.cells).flatten
theorem rowOf_len (l : List FV) : (rowOf l).length = l.length * 4 := by
  have := flatten_len (size := 4) (l.map FV.cells) (by intro r hr; obtain ⟨f, _, rfl⟩ := List.mem_map.1 hr; rfl)
  simpa [rowOf] using this
theorem rowOf_get (l : List FV) (i k : Nat) (hi : i < l.length) (hk : k < 4) : (rowOf l)[i * 4 + k]? = (l[i]).cells[k]? := by
  have := flatten_get (size := 4) (l.map FV.cells) (by intro r hr; obtain ⟨f, _, rfl⟩ := List.mem_map.1 hr; rfl) i k hk
  rw [rowOf, this, List.getElem?_map, List.getElem?_eq_getElem hi]; rfl
theorem rowOf_append (l m : List FV) : rowOf (l ++ m) = rowOf l ++ rowOf m := by simp [rowOf]
theorem rowOf_one (f : FV) : rowOf [f] = f.cells := by simp [rowOf]
theorem rowOf_cells (l : List FV) : ∀ u ∈ rowOf l, u.oneCell' = true := by
  intro u hu
  obtain ⟨r, hr, hu⟩ := List.mem_flatten.1 hu
  obtain ⟨f, _, rfl⟩ := List.mem_map.1 hr
  exact f.cells_one u hu

/-- The slice of n fields at A reads as l, whose bytes lie there. -/
structure Fs (w : World) (A : Option Addr) (n : Nat) (l : List FV) : Prop where
  rd : Rd w A n 4 (rowOf l)
  ok : ∀ f ∈ l, f.Ok w
theorem Fs.len {w : World} {A : Option Addr} {n : Nat} {l : List FV} (h : Fs w A n l) : l.length = n := by
  have := h.rd.1; rw [rowOf_len] at this; omega
theorem Fs.ext {w w' : World} {A : Option Addr} {n : Nat} {l : List FV} (h : Fs w A n l) (he : Ext w w') : Fs w' A n l := ⟨h.rd.ext he, fun f hf => (h.ok f hf).ext he⟩
theorem Fs.nil_ (w : World) (A : Option Addr) : Fs w A 0 [] := ⟨Rd.nil_ w A 4, by simp⟩
theorem Fs.at_ {w : World} {A : Option Addr} {n : Nat} {l : List FV} (h : Fs w A n l) {i : Nat} (hi : i < n) : ∃ b off, A = some ⟨b, off, none⟩ ∧
    w.cell? ⟨b, off + i * 4, none⟩ = some (.int .i64 (l[i]'(by rw [h.len]; exact hi)).num) ∧ w.cell? ⟨b, off + i * 4 + 1, none⟩ = some (.int .i64 (l[i]'(by rw [h.len]; exact hi)).wire) ∧
    w.cell? ⟨b, off + i * 4 + 2, none⟩ = some (.int .u64 (l[i]'(by rw [h.len]; exact hi)).n) ∧
    w.cell? ⟨b, off + i * 4 + 3, none⟩ = some (.slice (l[i]'(by rw [h.len]; exact hi)).A (l[i]'(by rw [h.len]; exact hi)).len (l[i]'(by rw [h.len]; exact hi)).cap) := by
  obtain ⟨b, off, e, _, hc⟩ := h.rd.2 (by omega)
  have hl := h.len
  have g := fun k hk => rowOf_get l i k (by omega) hk
  refine ⟨b, off, e, ?_, ?_, ?_, ?_⟩
  · have := hc (i * 4 + 0) _ (g 0 (by omega)); exact this
  · have := hc (i * 4 + 1) _ (g 1 (by omega)); exact this
  · have := hc (i * 4 + 2) _ (g 2 (by omega)); exact this
  · have := hc (i * 4 + 3) _ (g 3 (by omega)); exact this
theorem Fs.of_own {w : World} {base : Nat} {e : TypeId} {A : Option Addr} {n c : Nat} {l : List FV} (h : w.ownsRow base e 4 (.slice A n c) n (rowOf l)) (ho : ∀ f ∈ l, f.Ok w) : Fs w A n l := ⟨Rd.of_own h, ho⟩

theorem own_base {w : World} {base base' : Nat} {e : TypeId} {size n : Nat} {v : Value} {xs : List Value} (h : w.ownsRow base e size v n xs) (hb : base' ≤ base) : w.ownsRow base' e size v n xs := by
  refine ⟨h.1, ?_⟩
  rcases h.2 with h2 | ⟨g, cap, cur, hv, hg, r⟩
  · exact .inl h2
  · exact .inr ⟨g, cap, cur, hv, by omega, r⟩
theorem own_to {w : World} {base base' : Nat} {e : TypeId} {size n n' : Nat} {v : Value} {xs ys : List Value} (h : w.ownsRow base e size v n xs) (hb : base' ≤ base) (hn : n = n') (hx : xs = ys) : w.ownsRow base' e size v n' ys := by
  subst hn hx; exact own_base h hb

/-- a row of fields that is an argument -/
theorem open_fields {H : Type} {enc : TypeId × Value → H} {P : Program} {w : World} {base b0 : Nat} {spare : Nat → Bool} {held : Bool} {r : Reach} {t e tb tu ti tn : TypeId} {f0 f1 f2 f3 : Field} {v : Value} {d : DataW H} {p : List MemPlace}
    (ht : P.underlying t = some (.slice e)) (he : P.underlying e = some (.struct #[f0, f1, f2, f3])) (hone : oneCellFields P #[f0, f1, f2, f3] = true) (hC : P.cellsOf e = 4)
    (h0 : f0.type = ti) (h1 : f1.type = ti) (h2 : f2.type = tu) (h3 : f3.type = tb)
    (hi : P.underlying ti = some (.int .i64)) (hu : P.underlying tu = some (.int .u64)) (hb : P.underlying tb = some (.slice tn)) (hn : P.underlying tn = some (.int .u8)) (hcn : P.cellsOf tn = 1)
    (hv : Value.okWide P w r b0 t v) (h : DataW.Trod enc P w base spare held t v d p) : ∃ A n c l, v = .slice A n c ∧ Fs w A n l ∧ n ≤ c ∧ c ≤ maxLen := by
  obtain ⟨A, n, c, rows, hvv, hnc, hcm, hrl, hrows, hrd⟩ := (open_slice_val ht hv h).slice ht hC (by omega)
  obtain ⟨l, hl, hok⟩ := list_map_of FV.cells (fun f => f.Ok w) rows (fun row hr => by
    obtain ⟨hlen, htr⟩ := hrows row hr
    obtain ⟨_, hf⟩ := htr.fields he hone hC
    match row, hlen with
    | [x0, x1, x2, x3], _ =>
      obtain ⟨v0, e0, t0⟩ := hf 0 f0 rfl
      obtain ⟨v1, e1, t1⟩ := hf 1 f1 rfl
      obtain ⟨v2, e2, t2⟩ := hf 2 f2 rfl
      obtain ⟨v3, e3, t3⟩ := hf 3 f3 rfl
      simp only [List.getElem?_cons_zero, List.getElem?_cons_succ, Option.some.injEq] at e0 e1 e2 e3
      subst e0 e1 e2 e3
      rw [h0] at t0; rw [h1] at t1; rw [h2] at t2; rw [h3] at t3
      obtain ⟨a, rfl, _⟩ := t0.int hi
      obtain ⟨b, rfl, _⟩ := t1.int hi
      obtain ⟨m, rfl, hm⟩ := t2.int hu
      obtain ⟨B, k, q, bs, rfl, hbs, hk, hq⟩ := t3.bytes hb hn hcn
      have hm2 : 0 ≤ m ∧ m < 18446744073709551616 := by
        simp [Lit.wf, IntKind.min, IntKind.max, IntKind.signed, IntKind.bits] at hm
        omega
      exact ⟨⟨a, b, m.toNat, B, k, q, bs⟩, by simp only [FV.cells]; rw [Int.toNat_of_nonneg hm2.1], ⟨hbs, hk, hq, by unfold U64; dsimp only; omega⟩⟩)
  exact ⟨A, n, c, l, hvv, ⟨by rw [hl] at hrd; exact hrd, hok⟩, hnc, hcm⟩
end Go.Proofs.YtiildgoaiookhaaGreat

/- A record of a disk as a value, and a row of them in memory. No program in sight. -/
namespace Go.Proofs.YtiildgoaiookhaaGreat
open Go.RowKit Go.Deep

/-- a record: its kind, two numbers, bytes and where they lie -/
structure RV where
  kind : Int
  a : Int
  b : Int
  A : Option Addr
  len : Nat
  cap : Nat
  x : List UInt8
def RV.cells (f : RV) : List Value := [.int .i64 f.kind, .int .i64 f.a, .int .i64 f.b, .slice f.A f.len f.cap]
def RV.val (f : RV) : Value := .agg #[.int .i64 f.kind, .int .i64 f.a, .int .i64 f.b, .slice f.A f.len f.cap]
structure RV.Ok (f : RV) (w : World) : Prop where
  bs : Bs w f.A f.len f.x
  le : f.len ≤ f.cap
  cap : f.cap ≤ maxLen
theorem RV.Ok.ext {f : RV} {w w' : World} (h : f.Ok w) (he : Ext w w') : f.Ok w' := ⟨h.bs.ext he, h.le, h.cap⟩
theorem RV.cells_one (f : RV) : ∀ u ∈ f.cells, u.oneCell' = true := by
  intro u hu
  simp only [RV.cells, List.mem_cons, List.not_mem_nil, or_false] at hu
  rcases hu with rfl | rfl | rfl | rfl <;> rfl
def recOf (l : List RV) : List Value := (l.map RV.cells).flatten
theorem recOf_len (l : List RV) : (recOf l).length = l.length * 4 := by
  have := flatten_len (size := 4) (l.map RV.cells) (by intro r hr; obtain ⟨f, _, rfl⟩ := List.mem_map.1 hr; rfl)
  simpa [recOf] using this
theorem recOf_get (l : List RV) (i k : Nat) (hi : i < l.length) (hk : k < 4) : (recOf l)[i * 4 + k]? = (l[i]).cells[k]? := by
  have := flatten_get (size := 4) (l.map RV.cells) (by intro r hr; obtain ⟨f, _, rfl⟩ := List.mem_map.1 hr; rfl) i k hk
  rw [recOf, this, List.getElem?_map, List.getElem?_eq_getElem hi]; rfl
theorem recOf_append (l m : List RV) : recOf (l ++ m) = recOf l ++ recOf m := by simp [recOf]
theorem recOf_one (f : RV) : recOf [f] = f.cells := by simp [recOf]
theorem recOf_nil : recOf [] = [] := rfl

/-- The slice of n records at A reads as l, whose bytes lie there. -/
structure Rs (w : World) (A : Option Addr) (n : Nat) (l : List RV) : Prop where
  rd : Rd w A n 4 (recOf l)
  ok : ∀ f ∈ l, f.Ok w
section
variable {w w' : World} {A : Option Addr} {n : Nat} {l : List RV}
theorem Rs.len (h : Rs w A n l) : l.length = n := by
  have := h.rd.1; rw [recOf_len] at this; omega
theorem Rs.ext (h : Rs w A n l) (he : Ext w w') : Rs w' A n l := ⟨h.rd.ext he, fun f hf => (h.ok f hf).ext he⟩
theorem Rs.nil_ (w : World) (A : Option Addr) : Rs w A 0 [] := ⟨Rd.nil_ w A 4, by simp⟩
theorem Rs.at_ (h : Rs w A n l) {i : Nat} (hi : i < n) : ∃ b off, A = some ⟨b, off, none⟩ ∧
    w.cell? ⟨b, off + i * 4, none⟩ = some (.int .i64 (l[i]'(by rw [h.len]; exact hi)).kind) ∧ w.cell? ⟨b, off + i * 4 + 1, none⟩ = some (.int .i64 (l[i]'(by rw [h.len]; exact hi)).a) ∧
    w.cell? ⟨b, off + i * 4 + 2, none⟩ = some (.int .i64 (l[i]'(by rw [h.len]; exact hi)).b) ∧
    w.cell? ⟨b, off + i * 4 + 3, none⟩ = some (.slice (l[i]'(by rw [h.len]; exact hi)).A (l[i]'(by rw [h.len]; exact hi)).len (l[i]'(by rw [h.len]; exact hi)).cap) := by
  obtain ⟨b, off, e, _, hc⟩ := h.rd.2 (by omega)
  have hl := h.len
  have g := fun k hk => recOf_get l i k (by omega) hk
  refine ⟨b, off, e, ?_, ?_, ?_, ?_⟩
  · have := hc (i * 4 + 0) _ (g 0 (by omega)); exact this
  · have := hc (i * 4 + 1) _ (g 1 (by omega)); exact this
  · have := hc (i * 4 + 2) _ (g 2 (by omega)); exact this
  · have := hc (i * 4 + 3) _ (g 3 (by omega)); exact this
theorem Rs.of_own {base : Nat} {e : TypeId} {c : Nat} (h : w.ownsRow base e 4 (.slice A n c) n (recOf l)) (ho : ∀ f ∈ l, f.Ok w) : Rs w A n l := ⟨Rd.of_own h, ho⟩
end

/-- a vote, noted -/
def voteR (t who : Int) : RV := ⟨2, t, who, none, 0, 0, []⟩
theorem voteR_ok (t who : Int) (w : World) : (voteR t who).Ok w := ⟨Bs.nil_ _ _, Nat.le_refl _, by simp [voteR, maxLen]⟩
/-- what is saved to a greater term -/
def newerL (st t : Int) : List RV := if t ≤ st then [] else [voteR t 0]
theorem newerL_ok (st t : Int) (w : World) : ∀ f ∈ newerL st t, f.Ok w := by
  intro f hf
  unfold newerL at hf
  split at hf
  · simp at hf
  · simp only [List.mem_singleton] at hf; subst hf; exact voteR_ok _ _ _
/-- an entry with at most k bytes -/
def cutE (k : Nat) (f : EV) : EV := if k < f.len then { f with len := k, b := f.b.take k } else f
theorem cutE_ok {k : Nat} {f : EV} {w : World} (h : f.Ok w) : (cutE k f).Ok w := by
  unfold cutE
  split
  · exact ⟨h.bs.upto (hi := k) (by omega), by have := h.le; dsimp only; omega, h.cap, h.u⟩
  · exact h
theorem cutE_len (k : Nat) (f : EV) : (cutE k f).len ≤ k := by
  unfold cutE; split
  · exact Nat.le_refl _
  · omega
theorem cutE_term (k : Nat) (f : EV) : (cutE k f).term = f.term := by unfold cutE; split <;> rfl
/-- at most m entries, of at most k bytes -/
def cutL (m k : Nat) (l : List EV) : List EV := (l.take m).map (cutE k)
theorem cutL_len (m k : Nat) (l : List EV) : (cutL m k l).length = min m l.length := by simp [cutL]
theorem cutL_snoc (m k : Nat) (l : List EV) (j : Nat) (h : j < l.length) (hm : j < m) : (cutL m k l).take (j + 1) = (cutL m k l).take j ++ [cutE k l[j]] := by
  have hl : j < (cutL m k l).length := by rw [cutL_len]; omega
  rw [List.take_succ_eq_append_getElem hl]
  congr 2
  simp [cutL]
theorem cutL_ok {m k : Nat} {l : List EV} {w : World} (h : ∀ f ∈ l, f.Ok w) : ∀ f ∈ cutL m k l, f.Ok w := by
  intro f hf
  obtain ⟨g, hg, rfl⟩ := List.mem_map.1 hf
  exact cutE_ok (h g (List.mem_of_mem_take hg))

theorem blk_own (w : World) (cs : Array Value) (t : TypeId) (size n : Nat) (hl : cs.size = n * size) (hn : n ≤ 1000) {B : Nat} (hB : B ≤ w.heap.size) (k : Nat) (hk : k = w.heap.size) : (w.alloc (.cells cs t)).ownsRow B t size (.slice (some ⟨k, 0, none⟩) n n) n cs.toList := by
  subst hk
  have h : Blk (w.alloc (.cells cs t)) w.heap.size t cs.toList := by
    have := Blk.new w t cs.toList
    simpa using this
  exact h.own hB (by simpa using hl) (by unfold maxLen; omega)
theorem own_set {w : World} {base : Nat} {e : TypeId} {size n : Nat} {v : Value} {xs : List Value} (h : w.ownsRow base e size v n xs) {p : Addr} (hp : p.block < base) (u : Value) : (w.setCell p u).ownsRow base e size v n xs := by
  refine ⟨h.1, ?_⟩
  rcases h.2 with hn | ⟨g, cap, cur, rfl, hb, hgg, rest⟩
  · exact .inl hn
  · exact .inr ⟨g, cap, cur, rfl, hb, (heap_setCell_other w p g u (by omega)).trans hgg, rest⟩
theorem rd_at2 (w : World) (a b : Value) (t : TypeId) (k : Nat) (hk : k = w.heap.size) : Rd (w.alloc (.cells #[a, b] t)) (some ⟨k, 0, none⟩) 1 2 [a, b] := hk ▸ Rd.block w #[a, b] t 1 rfl
theorem ecells_one (t : Int) (A : Option Addr) (len cap : Nat) : ∀ u ∈ [Value.int .i64 t, .slice A len cap], u.oneCell' = true := by
  intro u hu
  simp only [List.mem_cons, List.not_mem_nil, or_false] at hu
  rcases hu with rfl | rfl <;> rfl
end Go.Proofs.YtiildgoaiookhaaGreat

/- An entry without where its bytes lie. -/
namespace Go.Proofs.YtiildgoaiookhaaGreat

/-- an entry without where its bytes lie -/
def EV.p (f : EV) : Int × List UInt8 := (f.term, f.b)
theorem alike_at {l l' : List EV} (h : l.map EV.p = l'.map EV.p) {j : Nat} (h1 : j < l.length) (h2 : j < l'.length) : l'[j].term = l[j].term ∧ l'[j].b = l[j].b := by
  have := congrArg (fun m => m[j]?) h
  simp only [List.getElem?_map, List.getElem?_eq_getElem h1, List.getElem?_eq_getElem h2, Option.map_some, Option.some.injEq, EV.p, Prod.mk.injEq] at this
  exact ⟨this.1.symm, this.2.symm⟩
/-- are two rows of entries the same -/
def entEq (l m : List EV) : Bool := decide (l.map EV.p = m.map EV.p)
theorem entEq_cons (a b : EV) (l m : List EV) : entEq (a :: l) (b :: m) = (decide (a.term = b.term) && (decide (a.b = b.b) && entEq l m)) := by
  unfold entEq
  simp only [List.map_cons, List.cons.injEq, EV.p, Prod.mk.injEq, Bool.decide_and, Bool.and_assoc]
theorem entEq_len {l m : List EV} (h : l.length ≠ m.length) : entEq l m = false := by
  unfold entEq
  have : ¬ l.map EV.p = m.map EV.p := fun e => by have := congrArg List.length e; simp at this; exact h this
  simp [this]
theorem entEq_nil : entEq [] [] = true := rfl
theorem entEq_iff {l m : List EV} : entEq l m = true ↔ l.map EV.p = m.map EV.p := by unfold entEq; simp
/-- a letter without where its bytes lie -/
def LV.p (x : LV) : (Int × Int × Int × Int × Int) × (Int × Int × Int × Bool) × List (Int × List UInt8) := ((x.kind, x.src, x.dst, x.term, x.bin), (x.a, x.b, x.c, x.ok), x.l.map EV.p)
/-- are two letters the same -/
def letEq (x y : LV) : Bool := decide (x.kind = y.kind) && (decide (x.src = y.src) && (decide (x.dst = y.dst) && (decide (x.term = y.term) && (decide (x.bin = y.bin) && (decide (x.a = y.a) && (decide (x.b = y.b) && (decide (x.c = y.c) && (decide (x.ok = y.ok) && entEq x.l y.l))))))))
theorem letEq_iff {x y : LV} : letEq x y = true ↔ x.p = y.p := by
  unfold letEq LV.p
  simp only [Bool.and_eq_true, decide_eq_true_eq, entEq_iff, Prod.mk.injEq]
  constructor
  · rintro ⟨h1, h2, h3, h4, h5, h6, h7, h8, h9, h10⟩; exact ⟨⟨h1, h2, h3, h4, h5⟩, ⟨h6, h7, h8, h9⟩, h10⟩
  · rintro ⟨⟨h1, h2, h3, h4, h5⟩, ⟨h6, h7, h8, h9⟩, h10⟩; exact ⟨h1, h2, h3, h4, h5, h6, h7, h8, h9, h10⟩
theorem letEq_refl (x : LV) : letEq x x = true := letEq_iff.2 rfl
theorem letEq_comm (x y : LV) : letEq y x = letEq x y := by
  rw [Bool.eq_iff_iff, letEq_iff, letEq_iff]; exact eq_comm
end Go.Proofs.YtiildgoaiookhaaGreat

/- Words for memory that is written in place: a world less some blocks. No program in sight. -/
namespace Go.Proofs.YtiildgoaiookhaaGreat
open Go.RowKit

/-- the world without the blocks that F names -/
def mask (F : Nat → Bool) (w : World) : World := { w with heap := w.heap.mapIdx fun i o => if F i then .cells #[] 0 (0, 0) else o }
theorem mask_size (F : Nat → Bool) (w : World) : (mask F w).heap.size = w.heap.size := by simp [mask]
theorem mask_at (F : Nat → Bool) (w : World) (k : Nat) : (mask F w).heap[k]? = (w.heap[k]?).map fun o => if F k then .cells #[] 0 (0, 0) else o := by
  simp [mask]
theorem mask_block {F : Nat → Bool} (w : World) {k : Nat} (h : F k = false) : (mask F w).heap[k]? = w.heap[k]? := by
  rw [mask_at, h]; simp
theorem mask_cell {F : Nat → Bool} {w : World} {p : Addr} {v : Value} (h : (mask F w).cell? p = some v) : w.cell? p = some v := by
  by_cases hF : F p.block = true
  · exfalso
    unfold World.cell? at h
    rw [mask_at, hF] at h
    cases hb : w.heap[p.block]? with
    | none => rw [hb] at h; simp at h
    | some o => rw [hb] at h; simp at h
  · rw [← World.cell?_of_block (mask_block w (by simpa using hF))]; exact h
/-- what is written is named by F -/
structure Fr (F : Nat → Bool) (w w' : World) : Prop where
  os : w'.os = w.os
  tape : w'.tape = w.tape
  output : w'.output = w.output
  size : w.heap.size ≤ w'.heap.size
  block : ∀ k, k < w.heap.size → F k = false → w'.heap[k]? = w.heap[k]?
theorem Fr.refl (F : Nat → Bool) (w : World) : Fr F w w := ⟨rfl, rfl, rfl, Nat.le_refl _, fun _ _ _ => rfl⟩
theorem Fr.of_ext {w w' : World} (h : Ext w w') (F : Nat → Bool) : Fr F w w' := ⟨h.os, h.tape, h.output, h.size, fun k hk _ => h.block k hk⟩
theorem Fr.trans {F : Nat → Bool} {a b c : World} (h : Fr F a b) (k : Fr F b c) : Fr F a c :=
  ⟨k.os.trans h.os, k.tape.trans h.tape, k.output.trans h.output, Nat.le_trans h.size k.size, fun i hi hf => (k.block i (Nat.lt_of_lt_of_le hi h.size) hf).trans (h.block i hi hf)⟩
theorem Fr.mono {F G : Nat → Bool} {a b : World} (h : Fr F a b) (hFG : ∀ k, k < a.heap.size → F k = true → G k = true) : Fr G a b :=
  ⟨h.os, h.tape, h.output, h.size, fun i hi hf => h.block i hi (by cases e : F i with | false => rfl | true => rw [hFG i hi e] at hf; cases hf)⟩
theorem Fr.grown {F : Nat → Bool} {w w' : World} {row : Option Nat} (hg : w.grownBy w' row) (hr : ∀ k, row = some k → F k = true) : Fr F w w' :=
  ⟨hg.os, hg.tape, hg.output, hg.size, fun i hi hf => hg.block i hi (fun e => by rw [hr i e.symm] at hf; cases hf)⟩
theorem Fr.setCell {F : Nat → Bool} (w : World) {p : Addr} (hp : F p.block = true) (u : Value) : Fr F w (w.setCell p u) :=
  ⟨rfl, rfl, rfl, by simp [World.setCell], fun k _ hf => Below.heap_setCell _ _ _ _ (fun e => by rw [e, hp] at hf; cases hf)⟩
theorem Fr.alloc (F : Nat → Bool) (w : World) (o : Obj) : Fr F w (w.alloc o) := .of_ext ((Ext.refl w).alloc o) F
theorem Fr.drew (F : Nat → Bool) (w : World) : Fr F w w.drew := ⟨rfl, rfl, rfl, Nat.le_refl _, fun _ _ _ => rfl⟩
theorem Fr.below {F : Nat → Bool} {a w w' : World} (h : Fr F w w') {B : Nat} (hx : Below B a w) (hB : B ≤ w.heap.size) (hF : ∀ k, F k = true → B ≤ k) : Below B a w' :=
  Below.trans hx ⟨h.os, h.tape, h.output, h.size, fun k hk => h.block k (by omega) (by cases e : F k with | false => rfl | true => have := hF k e; omega)⟩
theorem Fr.masks {F F' : Nat → Bool} {w w' : World} (h : Fr F w w') (hF : ∀ k, k < w.heap.size → F' k = F k) : Ext (mask F w) (mask F' w') := by
  refine ⟨h.os, h.tape, h.output, by rw [mask_size, mask_size]; exact h.size, fun k hk => ?_⟩
  rw [mask_size] at hk
  rw [mask_at, mask_at, hF k hk]
  have h1 : k < w'.heap.size := Nat.lt_of_lt_of_le hk h.size
  by_cases e : F k = true
  · rw [Array.getElem?_eq_getElem hk, Array.getElem?_eq_getElem h1]; simp [e]
  · have e' : F k = false := by simpa using e
    rw [h.block k hk e']
theorem Ext.masks {w w' : World} (h : Ext w w') {F : Nat → Bool} : Ext (mask F w) (mask F w') := (Fr.of_ext h F).masks fun _ _ => rfl
theorem Ext.masked {a w : World} (h : Ext a w) {F : Nat → Bool} (hF : ∀ k, F k = true → a.heap.size ≤ k) : Ext a (mask F w) :=
  ⟨h.os, h.tape, h.output, by rw [mask_size]; exact h.size, fun k hk => (mask_block w (by cases e : F k with | false => rfl | true => have := hF k e; omega)).trans (h.block k hk)⟩
theorem Rd.unmask {F : Nat → Bool} {w : World} {A : Option Addr} {n s : Nat} {xs : List Value} (h : Rd (mask F w) A n s xs) : Rd w A n s xs :=
  h.keep (by rw [mask_size]; exact Nat.le_refl _) fun _ _ hc => mask_cell hc
theorem EV.Ok.unmask {F : Nat → Bool} {w : World} {y : EV} (h : y.Ok (mask F w)) : y.Ok w := ⟨Rd.unmask h.bs, h.le, h.cap, h.u⟩
theorem Es.unmask {F : Nat → Bool} {w : World} {A : Option Addr} {n : Nat} {l : List EV} (h : Es (mask F w) A n l) : Es w A n l := ⟨Rd.unmask h.rd, fun f hf => (h.ok f hf).unmask⟩
theorem LV.Ok.unmask {F : Nat → Bool} {w : World} {x : LV} (h : x.Ok (mask F w)) : x.Ok w := ⟨h.es.unmask, h.le, h.cap, h.u0, h.u1, h.u2, h.u3, h.u4, h.u5, h.u6, h.u7⟩
theorem own_mask {F : Nat → Bool} {w : World} {base : Nat} {e : TypeId} {size n : Nat} {v : Value} {xs : List Value} (h : w.ownsRow base e size v n xs) (hF : ∀ k, v.ownBlock = some k → F k = false) : (mask F w).ownsRow base e size v n xs := by
  refine ⟨h.1, ?_⟩
  rcases h.2 with hn | ⟨g, cap, cur, rfl, hb, hg, rest⟩
  · exact .inl hn
  · exact .inr ⟨g, cap, cur, rfl, hb, (mask_block w (hF g rfl)).trans hg, rest⟩
theorem own_fr {F : Nat → Bool} {w w' : World} {base : Nat} {e : TypeId} {size n : Nat} {v : Value} {xs : List Value} (h : w.ownsRow base e size v n xs) (hf : Fr F w w') (hF : ∀ k, v.ownBlock = some k → F k = false) : w'.ownsRow base e size v n xs := by
  refine ⟨h.1, ?_⟩
  rcases h.2 with hn | ⟨g, cap, cur, rfl, hb, hg, rest⟩
  · exact .inl hn
  · exact .inr ⟨g, cap, cur, rfl, hb, (hf.block g (Array.getElem?_eq_some_iff.1 hg).1 (hF g rfl)).trans hg, rest⟩
theorem Blk.fr {F : Nat → Bool} {w w' : World} {g : Nat} {t : TypeId} {l : List Value} (h : Blk w g t l) (hf : Fr F w w') (hF : F g = false) : Blk w' g t l := (hf.block g h.lt hF).trans h
end Go.Proofs.YtiildgoaiookhaaGreat
