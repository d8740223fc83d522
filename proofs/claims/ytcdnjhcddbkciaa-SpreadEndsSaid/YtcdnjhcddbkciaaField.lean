/- A field of a row as a value, and a row of them in memory. No program in sight. -/
import Derived.Test.YtcdnjhcddbkciaaOpen2
import Derived.Test.YtcdnjhcddbkciaaVarint2
namespace Go.Proofs.Ytcdnjhcddbkciaa
open Go.RowKit Go.Deep Go.ChangeShapes Go.WideShapes

/-- a field: its number, kind, number, and bytes with where they lie -/
structure FV where
  num : Int
  wire : Int
  n : Nat
  A : Option Addr
  len : Nat
  cap : Nat
  b : List UInt8
def FV.cells (f : FV) : List Value := [.int .i64 f.num, .int .i64 f.wire, .int .u64 f.n, .slice f.A f.len f.cap]
def FV.val (f : FV) : Value := .agg #[.int .i64 f.num, .int .i64 f.wire, .int .u64 f.n, .slice f.A f.len f.cap]
/-- its bytes lie there -/
structure FV.Ok (f : FV) (w : World) : Prop where
  bs : Bs w f.A f.len f.b
  le : f.len ≤ f.cap
  cap : f.cap ≤ maxLen
  u : U64 f.n
theorem FV.Ok.ext {f : FV} {w w' : World} (h : f.Ok w) (he : Ext w w') : f.Ok w' := ⟨h.bs.ext he, h.le, h.cap, h.u⟩
theorem FV.cells_len (f : FV) : f.cells.length = 4 := rfl
theorem FV.cells_one (f : FV) : ∀ u ∈ f.cells, u.oneCell' = true := by
  intro u hu
  simp only [FV.cells, List.mem_cons, List.not_mem_nil, or_false] at hu
  rcases hu with rfl | rfl | rfl | rfl <;> rfl
def rowOf (l : List FV) : List Value := (l.map FV.cells).flatten
theorem rowOf_len (l : List FV) : (rowOf l).length = l.length * 4 := by
  have := flatten_len (size := 4) (l.map FV.cells) (by intro r hr; obtain ⟨f, _, rfl⟩ := List.mem_map.1 hr; rfl)
  simpa [rowOf] using this
theorem rowOf_get (l : List FV) (i k : Nat) (hi : i < l.length) (hk : k < 4) : (rowOf l)[i * 4 + k]? = (l[i]).cells[k]? := by
  have := flatten_get (size := 4) (l.map FV.cells) (by intro r hr; obtain ⟨f, _, rfl⟩ := List.mem_map.1 hr; rfl) i k hk
  rw [rowOf, this, List.getElem?_map, List.getElem?_eq_getElem hi]; rfl
theorem rowOf_append (l m : List FV) : rowOf (l ++ m) = rowOf l ++ rowOf m := by simp [rowOf]
theorem rowOf_one (f : FV) : rowOf [f] = f.cells := by simp [rowOf]
theorem rowOf_cells (l : List FV) : ∀ u ∈ rowOf l, u.oneCell' = true := by
  intro u hu
  obtain ⟨r, hr, hu⟩ := List.mem_flatten.1 hu
  obtain ⟨f, _, rfl⟩ := List.mem_map.1 hr
  exact f.cells_one u hu

/-- The slice of n fields at A reads as l, whose bytes lie there. -/
structure Fs (w : World) (A : Option Addr) (n : Nat) (l : List FV) : Prop where
  rd : Rd w A n 4 (rowOf l)
  ok : ∀ f ∈ l, f.Ok w
theorem Fs.len {w : World} {A : Option Addr} {n : Nat} {l : List FV} (h : Fs w A n l) : l.length = n := by
  have := h.rd.1; rw [rowOf_len] at this; omega
theorem Fs.ext {w w' : World} {A : Option Addr} {n : Nat} {l : List FV} (h : Fs w A n l) (he : Ext w w') : Fs w' A n l := ⟨h.rd.ext he, fun f hf => (h.ok f hf).ext he⟩
theorem Fs.nil_ (w : World) (A : Option Addr) : Fs w A 0 [] := ⟨Rd.nil_ w A 4, by simp⟩
theorem Fs.at_ {w : World} {A : Option Addr} {n : Nat} {l : List FV} (h : Fs w A n l) {i : Nat} (hi : i < n) : ∃ b off, A = some ⟨b, off, none⟩ ∧
    w.cell? ⟨b, off + i * 4, none⟩ = some (.int .i64 (l[i]'(by rw [h.len]; exact hi)).num) ∧ w.cell? ⟨b, off + i * 4 + 1, none⟩ = some (.int .i64 (l[i]'(by rw [h.len]; exact hi)).wire) ∧
    w.cell? ⟨b, off + i * 4 + 2, none⟩ = some (.int .u64 (l[i]'(by rw [h.len]; exact hi)).n) ∧
    w.cell? ⟨b, off + i * 4 + 3, none⟩ = some (.slice (l[i]'(by rw [h.len]; exact hi)).A (l[i]'(by rw [h.len]; exact hi)).len (l[i]'(by rw [h.len]; exact hi)).cap) := by
  obtain ⟨b, off, e, _, hc⟩ := h.rd.2 (by omega)
  have hl := h.len
  have g := fun k hk => rowOf_get l i k (by omega) hk
  refine ⟨b, off, e, ?_, ?_, ?_, ?_⟩
  · have := hc (i * 4 + 0) _ (g 0 (by omega)); exact this
  · have := hc (i * 4 + 1) _ (g 1 (by omega)); exact this
  · have := hc (i * 4 + 2) _ (g 2 (by omega)); exact this
  · have := hc (i * 4 + 3) _ (g 3 (by omega)); exact this
theorem Fs.of_own {w : World} {base : Nat} {e : TypeId} {A : Option Addr} {n c : Nat} {l : List FV} (h : w.ownsRow base e 4 (.slice A n c) n (rowOf l)) (ho : ∀ f ∈ l, f.Ok w) : Fs w A n l := ⟨Rd.of_own h, ho⟩

theorem own_base {w : World} {base base' : Nat} {e : TypeId} {size n : Nat} {v : Value} {xs : List Value} (h : w.ownsRow base e size v n xs) (hb : base' ≤ base) : w.ownsRow base' e size v n xs := by
  refine ⟨h.1, ?_⟩
  rcases h.2 with h2 | ⟨g, cap, cur, hv, hg, r⟩
  · exact .inl h2
  · exact .inr ⟨g, cap, cur, hv, by omega, r⟩
theorem own_to {w : World} {base base' : Nat} {e : TypeId} {size n n' : Nat} {v : Value} {xs ys : List Value} (h : w.ownsRow base e size v n xs) (hb : base' ≤ base) (hn : n = n') (hx : xs = ys) : w.ownsRow base' e size v n' ys := by
  subst hn hx; exact own_base h hb

/-- a row of fields that is an argument -/
theorem open_fields {H : Type} {enc : TypeId × Value → H} {P : Program} {w : World} {base b0 : Nat} {spare : Nat → Bool} {held : Bool} {r : Reach} {t e tb tu ti tn : TypeId} {f0 f1 f2 f3 : Field} {v : Value} {d : DataW H} {p : List MemPlace}
    (ht : P.underlying t = some (.slice e)) (he : P.underlying e = some (.struct #[f0, f1, f2, f3])) (hone : oneCellFields P #[f0, f1, f2, f3] = true) (hC : P.cellsOf e = 4)
    (h0 : f0.type = ti) (h1 : f1.type = ti) (h2 : f2.type = tu) (h3 : f3.type = tb)
    (hi : P.underlying ti = some (.int .i64)) (hu : P.underlying tu = some (.int .u64)) (hb : P.underlying tb = some (.slice tn)) (hn : P.underlying tn = some (.int .u8)) (hcn : P.cellsOf tn = 1)
    (hv : Value.okWide P w r b0 t v) (h : DataW.Trod enc P w base spare held t v d p) : ∃ A n c l, v = .slice A n c ∧ Fs w A n l ∧ n ≤ c ∧ c ≤ maxLen := by
  obtain ⟨A, n, c, rows, hvv, hnc, hcm, hrl, hrows, hrd⟩ := (open_slice_val ht hv h).slice ht hC (by omega)
  obtain ⟨l, hl, hok⟩ := list_map_of FV.cells (fun f => f.Ok w) rows (fun row hr => by
    obtain ⟨hlen, htr⟩ := hrows row hr
    obtain ⟨_, hf⟩ := htr.fields he hone hC
    match row, hlen with
    | [x0, x1, x2, x3], _ =>
      obtain ⟨v0, e0, t0⟩ := hf 0 f0 rfl
      obtain ⟨v1, e1, t1⟩ := hf 1 f1 rfl
      obtain ⟨v2, e2, t2⟩ := hf 2 f2 rfl
      obtain ⟨v3, e3, t3⟩ := hf 3 f3 rfl
      simp only [List.getElem?_cons_zero, List.getElem?_cons_succ, Option.some.injEq] at e0 e1 e2 e3
      subst e0 e1 e2 e3
      rw [h0] at t0; rw [h1] at t1; rw [h2] at t2; rw [h3] at t3
      obtain ⟨a, rfl, _⟩ := t0.int hi
      obtain ⟨b, rfl, _⟩ := t1.int hi
      obtain ⟨m, rfl, hm⟩ := t2.int hu
      obtain ⟨B, k, q, bs, rfl, hbs, hk, hq⟩ := t3.bytes hb hn hcn
      have hm2 : 0 ≤ m ∧ m < 18446744073709551616 := by
        simp [Lit.wf, IntKind.min, IntKind.max, IntKind.signed, IntKind.bits] at hm
        omega
      exact ⟨⟨a, b, m.toNat, B, k, q, bs⟩, by simp only [FV.cells]; rw [Int.toNat_of_nonneg hm2.1], ⟨hbs, hk, hq, by unfold U64; dsimp only; omega⟩⟩)
  exact ⟨A, n, c, l, hvv, ⟨by rw [hl] at hrd; exact hrd, hok⟩, hnc, hcm⟩
end Go.Proofs.Ytcdnjhcddbkciaa
