/- An entry of a log, a state, and a letter, as values and in memory. No program in sight. -/
import Derived.Test.YtcdnjhcddbkciaaOpen2
namespace Go.Proofs.Ytcdnjhcddbkciaa
open Go.RowKit Go.Deep Go.ChangeShapes Go.WideShapes

/-- n is an int -/
structure I64 (n : Int) : Prop where
  lo : -9223372036854775808 ≤ n
  hi : n ≤ 9223372036854775807
theorem I64.of_wf {n : Int} (h : (Lit.int .i64 n).wf = true) : I64 n := by
  simp [Lit.wf, IntKind.min, IntKind.max, IntKind.signed, IntKind.bits] at h
  exact ⟨by omega, by omega⟩
theorem I64.wrap {n : Int} (h : I64 n) : IntKind.i64.wrap n = n := IntWalk.i64_in _ ⟨h.lo, h.hi⟩

/-- an entry: its term, its bytes, and where they lie -/
structure EV where
  term : Int
  A : Option Addr
  len : Nat
  cap : Nat
  b : List UInt8
def EV.cells (f : EV) : List Value := [.int .i64 f.term, .slice f.A f.len f.cap]
/-- its bytes lie there -/
structure EV.Ok (f : EV) (w : World) : Prop where
  bs : Bs w f.A f.len f.b
  le : f.len ≤ f.cap
  cap : f.cap ≤ maxLen
  u : I64 f.term
theorem EV.Ok.ext {f : EV} {w w' : World} (h : f.Ok w) (he : Ext w w') : f.Ok w' := ⟨h.bs.ext he, h.le, h.cap, h.u⟩
theorem EV.cells_one (f : EV) : ∀ u ∈ f.cells, u.oneCell' = true := by
  intro u hu
  simp only [EV.cells, List.mem_cons, List.not_mem_nil, or_false] at hu
  rcases hu with rfl | rfl <;> rfl
def logOf (l : List EV) : List Value := (l.map EV.cells).flatten
theorem logOf_len (l : List EV) : (logOf l).length = l.length * 2 := by
  have := flatten_len (size := 2) (l.map EV.cells) (by intro r hr; obtain ⟨f, _, rfl⟩ := List.mem_map.1 hr; rfl)
  simpa [logOf] using this
theorem logOf_get (l : List EV) (i k : Nat) (hi : i < l.length) (hk : k < 2) : (logOf l)[i * 2 + k]? = (l[i]).cells[k]? := by
  have := flatten_get (size := 2) (l.map EV.cells) (by intro r hr; obtain ⟨f, _, rfl⟩ := List.mem_map.1 hr; rfl) i k hk
  rw [logOf, this, List.getElem?_map, List.getElem?_eq_getElem hi]; rfl
theorem logOf_append (l m : List EV) : logOf (l ++ m) = logOf l ++ logOf m := by simp [logOf]
theorem logOf_one (f : EV) : logOf [f] = f.cells := by simp [logOf]
theorem logOf_cells (l : List EV) : ∀ u ∈ logOf l, u.oneCell' = true := by
  intro u hu
  obtain ⟨r, hr, hu⟩ := List.mem_flatten.1 hu
  obtain ⟨f, _, rfl⟩ := List.mem_map.1 hr
  exact f.cells_one u hu

/-- The slice of n entries at A reads as l, whose bytes lie there. -/
structure Es (w : World) (A : Option Addr) (n : Nat) (l : List EV) : Prop where
  rd : Rd w A n 2 (logOf l)
  ok : ∀ f ∈ l, f.Ok w
section
variable {w w' : World} {A : Option Addr} {n : Nat} {l : List EV}
theorem Es.len (h : Es w A n l) : l.length = n := by
  have := h.rd.1; rw [logOf_len] at this; omega
theorem Es.ext (h : Es w A n l) (he : Ext w w') : Es w' A n l := ⟨h.rd.ext he, fun f hf => (h.ok f hf).ext he⟩
theorem Es.nil_ (w : World) (A : Option Addr) : Es w A 0 [] := ⟨Rd.nil_ w A 2, by simp⟩
theorem Es.at_ (h : Es w A n l) {i : Nat} (hi : i < n) : ∃ b off, A = some ⟨b, off, none⟩ ∧
    w.cell? ⟨b, off + i * 2, none⟩ = some (.int .i64 (l[i]'(by rw [h.len]; exact hi)).term) ∧
    w.cell? ⟨b, off + i * 2 + 1, none⟩ = some (.slice (l[i]'(by rw [h.len]; exact hi)).A (l[i]'(by rw [h.len]; exact hi)).len (l[i]'(by rw [h.len]; exact hi)).cap) := by
  obtain ⟨b, off, e, _, hc⟩ := h.rd.2 (by omega)
  have hl := h.len
  have g := fun k hk => logOf_get l i k (by omega) hk
  refine ⟨b, off, e, ?_, ?_⟩
  · have := hc (i * 2 + 0) _ (g 0 (by omega)); exact this
  · have := hc (i * 2 + 1) _ (g 1 (by omega)); exact this
theorem Es.of_own {base : Nat} {e : TypeId} {c : Nat} (h : w.ownsRow base e 2 (.slice A n c) n (logOf l)) (ho : ∀ f ∈ l, f.Ok w) : Es w A n l := ⟨Rd.of_own h, ho⟩
theorem logOf_take (l : List EV) (k : Nat) : logOf (l.take k) = (logOf l).take (k * 2) := by
  induction l generalizing k with
  | nil => simp [logOf]
  | cons a r ih =>
    cases k with
    | zero => simp [logOf]
    | succ k =>
      have := ih k
      simp only [logOf, List.take_succ_cons, List.map_cons, List.flatten_cons] at this ⊢
      rw [this, show (k + 1) * 2 = a.cells.length + k * 2 by simp [EV.cells]; omega, List.take_length_add_append]
theorem logOf_drop (l : List EV) (k : Nat) : logOf (l.drop k) = (logOf l).drop (k * 2) := by
  induction l generalizing k with
  | nil => simp [logOf]
  | cons a r ih =>
    cases k with
    | zero => simp [logOf]
    | succ k =>
      have := ih k
      simp only [logOf, List.drop_succ_cons, List.map_cons, List.flatten_cons] at this ⊢
      rw [this, show (k + 1) * 2 = a.cells.length + k * 2 by simp [EV.cells]; omega, List.drop_length_add_append]
/-- l[:hi] -/
theorem Es.upto (h : Es w A n l) {hi : Nat} (hh : hi ≤ n) : Es w A hi (l.take hi) := by
  have := h.rd.part (lo := 0) (m := hi) (by omega) A (fun _ b off e => by simpa using e)
  refine ⟨?_, fun f hf => h.ok f (List.mem_of_mem_take hf)⟩
  rw [logOf_take]
  simpa using this
/-- l[lo:] -/
theorem Es.from_ (h : Es w A n l) {lo cap : Nat} (hlo : lo ≤ n) (hc : n ≤ cap) : Es w (if cap = lo then A else A.map (·.add (lo * 2))) (n - lo) (l.drop lo) := by
  have := h.rd.part (lo := lo) (m := n - lo) (by omega) (if cap = lo then A else A.map (·.add (lo * 2))) (fun hp b off e => by
    rw [if_neg (by omega), e]; simp [plain_add])
  refine ⟨?_, fun f hf => h.ok f (List.mem_of_mem_drop hf)⟩
  rw [logOf_drop]
  rwa [List.take_of_length_le (by rw [List.length_drop, h.rd.1, Nat.sub_mul]; exact Nat.le_refl _)] at this
end

/-- a state: floor, term, vote, log -/
structure SV where
  floor : Int
  term : Int
  vote : Int
  A : Option Addr
  n : Nat
  c : Nat
  l : List EV
def SV.val (s : SV) : Value := .agg #[.int .i64 s.floor, .int .i64 s.term, .int .i64 s.vote, .slice s.A s.n s.c]
structure SV.Ok (s : SV) (w : World) : Prop where
  es : Es w s.A s.n s.l
  le : s.n ≤ s.c
  cap : s.c ≤ maxLen
  u0 : I64 s.floor
  u1 : I64 s.term
  u2 : I64 s.vote
theorem SV.Ok.ext {s : SV} {w w' : World} (h : s.Ok w) (he : Ext w w') : s.Ok w' := ⟨h.es.ext he, h.le, h.cap, h.u0, h.u1, h.u2⟩

/-- a letter -/
structure LV where
  kind : Int
  src : Int
  dst : Int
  term : Int
  a : Int
  b : Int
  c : Int
  bin : Int
  ok : Bool
  A : Option Addr
  n : Nat
  cp : Nat
  l : List EV
def LV.val (x : LV) : Value := .agg #[.int .i64 x.kind, .int .i64 x.src, .int .i64 x.dst, .int .i64 x.term, .int .i64 x.a, .int .i64 x.b, .int .i64 x.c, .int .i64 x.bin, .bool x.ok, .slice x.A x.n x.cp]
structure LV.Ok (x : LV) (w : World) : Prop where
  es : Es w x.A x.n x.l
  le : x.n ≤ x.cp
  cap : x.cp ≤ maxLen
  u0 : I64 x.kind
  u1 : I64 x.src
  u2 : I64 x.dst
  u3 : I64 x.term
  u4 : I64 x.a
  u5 : I64 x.b
  u6 : I64 x.c
  u7 : I64 x.bin
theorem LV.Ok.ext {x : LV} {w w' : World} (h : x.Ok w) (he : Ext w w') : x.Ok w' := ⟨h.es.ext he, h.le, h.cap, h.u0, h.u1, h.u2, h.u3, h.u4, h.u5, h.u6, h.u7⟩

section
variable {H : Type} {enc : TypeId × Value → H} {P : Program} {w : World} {base b0 : Nat} {spare : Nat → Bool} {held : Bool} {r : Reach}
/-- the fields of a struct of one-cell fields, by their types -/
theorem Tr.typed {t : TypeId} {fs : Array Field} {ts : List TypeId} {cs : List Value} (ht : P.underlying t = some (.struct fs)) (hts : fs.toList.map (·.type) = ts) (hone : oneCellFields P fs = true) (hC : P.cellsOf t = ts.length) (h : Tr enc P w base spare held t cs) :
    cs.length = ts.length ∧ ∀ (j : Nat) (u : TypeId), ts[j]? = some u → ∃ v, cs[j]? = some v ∧ Tr enc P w base spare held u [v] := by
  have hsz : fs.size = ts.length := by rw [← hts]; simp
  obtain ⟨hl, hf⟩ := h.fields ht hone (by rw [hC, hsz])
  refine ⟨by omega, fun j u hu => ?_⟩
  rw [← hts, List.getElem?_map] at hu
  obtain ⟨f, hfj, rfl⟩ := Option.map_eq_some_iff.1 hu
  exact hf j f (by simpa using hfj)
theorem Tr.i64 {t : TypeId} {v : Value} (ht : P.underlying t = some (.int .i64)) (h : Tr enc P w base spare held t [v]) : ∃ n, v = .int .i64 n ∧ I64 n := by
  obtain ⟨n, rfl, hw⟩ := h.int ht
  exact ⟨n, rfl, I64.of_wf hw⟩

/-- a row of entries -/
theorem Tr.entries {t e ti tb tn : TypeId} {fs : Array Field} {v : Value} (ht : P.underlying t = some (.slice e)) (he : P.underlying e = some (.struct fs)) (hts : fs.toList.map (·.type) = [ti, tb]) (hone : oneCellFields P fs = true) (hC : P.cellsOf e = 2)
    (hi : P.underlying ti = some (.int .i64)) (hb : P.underlying tb = some (.slice tn)) (hn : P.underlying tn = some (.int .u8)) (hcn : P.cellsOf tn = 1)
    (h : Tr enc P w base spare held t [v]) : ∃ A n c l, v = .slice A n c ∧ Es w A n l ∧ n ≤ c ∧ c ≤ maxLen := by
  obtain ⟨A, n, c, rows, hvv, hnc, hcm, hrl, hrows, hrd⟩ := h.slice ht hC (by omega)
  obtain ⟨l, hl, hok⟩ := list_map_of EV.cells (fun f => f.Ok w) rows (fun row hr => by
    obtain ⟨hlen, htr⟩ := hrows row hr
    obtain ⟨_, hf⟩ := htr.typed he hts hone hC
    match row, hlen with
    | [x0, x1], _ =>
      obtain ⟨v0, e0, t0⟩ := hf 0 ti rfl
      obtain ⟨v1, e1, t1⟩ := hf 1 tb rfl
      simp only [List.getElem?_cons_zero, List.getElem?_cons_succ, Option.some.injEq] at e0 e1
      subst e0 e1
      obtain ⟨a, rfl, ha⟩ := t0.i64 hi
      obtain ⟨B, k, q, bs, rfl, hbs, hk, hq⟩ := t1.bytes hb hn hcn
      exact ⟨⟨a, B, k, q, bs⟩, rfl, ⟨hbs, hk, hq, ha⟩⟩)
  exact ⟨A, n, c, l, hvv, ⟨by rw [hl] at hrd; exact hrd, hok⟩, hnc, hcm⟩
theorem open_entries {t e ti tb tn : TypeId} {fs : Array Field} {v : Value} {d : DataW H} {p : List MemPlace} (ht : P.underlying t = some (.slice e)) (he : P.underlying e = some (.struct fs)) (hts : fs.toList.map (·.type) = [ti, tb]) (hone : oneCellFields P fs = true) (hC : P.cellsOf e = 2)
    (hi : P.underlying ti = some (.int .i64)) (hb : P.underlying tb = some (.slice tn)) (hn : P.underlying tn = some (.int .u8)) (hcn : P.cellsOf tn = 1)
    (hv : Value.okWide P w r b0 t v) (h : DataW.Trod enc P w base spare held t v d p) : ∃ A n c l, v = .slice A n c ∧ Es w A n l ∧ n ≤ c ∧ c ≤ maxLen :=
  (open_slice_val ht hv h).entries ht he hts hone hC hi hb hn hcn
/-- a state that is an argument -/
theorem open_stable {ts t e ti tb tn : TypeId} {gs fs : Array Field} {v : Value} {d : DataW H} {p : List MemPlace}
    (hs : P.underlying ts = some (.struct gs)) (hgs : gs.toList.map (·.type) = [ti, ti, ti, t]) (hones : oneCellFields P gs = true) (hCs : P.cellsOf ts = 4)
    (ht : P.underlying t = some (.slice e)) (he : P.underlying e = some (.struct fs)) (hts : fs.toList.map (·.type) = [ti, tb]) (hone : oneCellFields P fs = true) (hC : P.cellsOf e = 2)
    (hi : P.underlying ti = some (.int .i64)) (hb : P.underlying tb = some (.slice tn)) (hn : P.underlying tn = some (.int .u8)) (hcn : P.cellsOf tn = 1)
    (hv : Value.okWide P w r b0 ts v) (h : DataW.Trod enc P w base spare held ts v d p) : ∃ s : SV, v = s.val ∧ s.Ok w := by
  obtain ⟨cs, rfl, htr⟩ := open_struct hs hv h
  obtain ⟨hlen, hf⟩ := htr.typed hs hgs hones hCs
  match cs, hlen with
  | [x0, x1, x2, x3], _ =>
    obtain ⟨v0, e0, t0⟩ := hf 0 ti rfl
    obtain ⟨v1, e1, t1⟩ := hf 1 ti rfl
    obtain ⟨v2, e2, t2⟩ := hf 2 ti rfl
    obtain ⟨v3, e3, t3⟩ := hf 3 t rfl
    simp only [List.getElem?_cons_zero, List.getElem?_cons_succ, Option.some.injEq] at e0 e1 e2 e3
    subst e0 e1 e2 e3
    obtain ⟨a0, rfl, h0⟩ := t0.i64 hi
    obtain ⟨a1, rfl, h1⟩ := t1.i64 hi
    obtain ⟨a2, rfl, h2⟩ := t2.i64 hi
    obtain ⟨A, n, c, l, rfl, hE, hnc, hcm⟩ := t3.entries ht he hts hone hC hi hb hn hcn
    exact ⟨⟨a0, a1, a2, A, n, c, l⟩, rfl, ⟨hE, hnc, hcm, h0, h1, h2⟩⟩
/-- a letter that is an argument -/
theorem open_letter {ts tq t e ti tb tn : TypeId} {gs fs : Array Field} {v : Value} {d : DataW H} {p : List MemPlace}
    (hs : P.underlying ts = some (.struct gs)) (hgs : gs.toList.map (·.type) = [ti, ti, ti, ti, ti, ti, ti, ti, tq, t]) (hones : oneCellFields P gs = true) (hCs : P.cellsOf ts = 10) (hq : P.underlying tq = some .bool)
    (ht : P.underlying t = some (.slice e)) (he : P.underlying e = some (.struct fs)) (hts : fs.toList.map (·.type) = [ti, tb]) (hone : oneCellFields P fs = true) (hC : P.cellsOf e = 2)
    (hi : P.underlying ti = some (.int .i64)) (hb : P.underlying tb = some (.slice tn)) (hn : P.underlying tn = some (.int .u8)) (hcn : P.cellsOf tn = 1)
    (hv : Value.okWide P w r b0 ts v) (h : DataW.Trod enc P w base spare held ts v d p) : ∃ x : LV, v = x.val ∧ x.Ok w := by
  obtain ⟨cs, rfl, htr⟩ := open_struct hs hv h
  obtain ⟨hlen, hf⟩ := htr.typed hs hgs hones hCs
  match cs, hlen with
  | [x0, x1, x2, x3, x4, x5, x6, x7, x8, x9], _ =>
    obtain ⟨v0, e0, t0⟩ := hf 0 ti rfl
    obtain ⟨v1, e1, t1⟩ := hf 1 ti rfl
    obtain ⟨v2, e2, t2⟩ := hf 2 ti rfl
    obtain ⟨v3, e3, t3⟩ := hf 3 ti rfl
    obtain ⟨v4, e4, t4⟩ := hf 4 ti rfl
    obtain ⟨v5, e5, t5⟩ := hf 5 ti rfl
    obtain ⟨v6, e6, t6⟩ := hf 6 ti rfl
    obtain ⟨v7, e7, t7⟩ := hf 7 ti rfl
    obtain ⟨v8, e8, t8⟩ := hf 8 tq rfl
    obtain ⟨v9, e9, t9⟩ := hf 9 t rfl
    simp only [List.getElem?_cons_zero, List.getElem?_cons_succ, Option.some.injEq] at e0 e1 e2 e3 e4 e5 e6 e7 e8 e9
    subst e0 e1 e2 e3 e4 e5 e6 e7 e8 e9
    obtain ⟨a0, rfl, h0⟩ := t0.i64 hi
    obtain ⟨a1, rfl, h1⟩ := t1.i64 hi
    obtain ⟨a2, rfl, h2⟩ := t2.i64 hi
    obtain ⟨a3, rfl, h3⟩ := t3.i64 hi
    obtain ⟨a4, rfl, h4⟩ := t4.i64 hi
    obtain ⟨a5, rfl, h5⟩ := t5.i64 hi
    obtain ⟨a6, rfl, h6⟩ := t6.i64 hi
    obtain ⟨a7, rfl, h7⟩ := t7.i64 hi
    obtain ⟨q, rfl⟩ := t8.bool hq
    obtain ⟨A, n, c, l, rfl, hE, hnc, hcm⟩ := t9.entries ht he hts hone hC hi hb hn hcn
    exact ⟨⟨a0, a1, a2, a3, a4, a5, a6, a7, q, A, n, c, l⟩, rfl, ⟨hE, hnc, hcm, h0, h1, h2, h3, h4, h5, h6, h7⟩⟩
end
end Go.Proofs.Ytcdnjhcddbkciaa
