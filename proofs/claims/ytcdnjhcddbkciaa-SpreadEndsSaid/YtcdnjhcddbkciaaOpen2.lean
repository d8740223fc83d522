/- Arguments of a law opened into the words of the walks: structs, arrays, slices of structs. No program in sight. -/
import Derived.Test.YtcdnjhcddbkciaaOpen
import Derived.Deep.Slices
import Derived.Deep.Fields
import Derived.ChangeSame
namespace Go.Proofs.Ytcdnjhcddbkciaa
open Go.ChangeShapes Go.WideShapes Go.ChangeAt Go.RowKit Go.Deep

theorem list_map_of {α β : Type} (g : β → α) (Q : β → Prop) : ∀ (l : List α), (∀ x ∈ l, ∃ y, x = g y ∧ Q y) → ∃ ys : List β, l = ys.map g ∧ ∀ y ∈ ys, Q y
  | [], _ => ⟨[], rfl, by simp⟩
  | x :: r, h => by
    obtain ⟨y, hy, hq⟩ := h x (List.mem_cons_self ..)
    obtain ⟨ys, hys, hqs⟩ := list_map_of g Q r fun z hz => h z (List.mem_cons_of_mem _ hz)
    exact ⟨y :: ys, by rw [hy, hys]; rfl, by
      intro z hz
      rcases List.mem_cons.1 hz with rfl | hz
      · exact hq
      · exact hqs z hz⟩

theorem flatten_get {α : Type} {size : Nat} : ∀ (rows : List (List α)), (∀ r ∈ rows, r.length = size) → ∀ i k, k < size → rows.flatten[i * size + k]? = (rows[i]?).bind (·[k]?)
  | [], _, i, k, _ => by simp
  | r :: rs, h, 0, k, hk => by
    have hr := h r (List.mem_cons_self ..)
    simp only [List.flatten_cons, Nat.zero_mul, Nat.zero_add, List.getElem?_cons_zero, Option.bind_some]
    rw [List.getElem?_append_left (by omega)]
  | r :: rs, h, i + 1, k, hk => by
    have hr := h r (List.mem_cons_self ..)
    have ih := flatten_get rs (fun z hz => h z (List.mem_cons_of_mem _ hz)) i k hk
    simp only [List.flatten_cons, List.getElem?_cons_succ]
    rw [List.getElem?_append_right (by rw [hr, Nat.succ_mul]; omega), hr, ← ih]
    congr 1
    rw [Nat.succ_mul]; omega
theorem flatten_len {α : Type} {size : Nat} : ∀ (rows : List (List α)), (∀ r ∈ rows, r.length = size) → rows.flatten.length = rows.length * size
  | [], _ => by simp
  | r :: rs, h => by
    rw [List.flatten_cons, List.length_append, flatten_len rs (fun z hz => h z (List.mem_cons_of_mem _ hz)), h r (List.mem_cons_self ..), List.length_cons, Nat.succ_mul]
    omega

section
variable {H : Type} {enc : TypeId × Value → H} {P : Program} {w : World} {base b0 : Nat} {spare : Nat → Bool} {held : Bool} {r : Reach}

/-- The cells cs are read as a value of type t. -/
def Tr (enc : TypeId × Value → H) (P : Program) (w : World) (base : Nat) (spare : Nat → Bool) (held : Bool) (t : TypeId) (cs : List Value) : Prop :=
  ∃ fuel x, DataW.trod enc P w base spare held fuel t cs = some x
theorem Tr.of_trod {t : TypeId} {v : Value} {d : DataW H} {p : List MemPlace} (h : DataW.Trod enc P w base spare held t v d p) : Tr enc P w base spare held t v.cells.toList := by
  obtain ⟨fuel, hf⟩ := h
  exact ⟨fuel, _, hf⟩
theorem Tr.int {t : TypeId} {k : IntKind} {v : Value} (ht : P.underlying t = some (.int k)) (h : Tr enc P w base spare held t [v]) : ∃ n, v = .int k n ∧ (Lit.int k n).wf = true := by
  obtain ⟨fuel, x, h⟩ := h
  obtain ⟨n, hc, _, hw⟩ := DataW.trod_int ht h
  exact ⟨n, by simpa using hc, hw⟩
theorem Tr.bool {t : TypeId} {v : Value} (ht : P.underlying t = some .bool) (h : Tr enc P w base spare held t [v]) : ∃ b, v = .bool b := by
  obtain ⟨fuel, x, h⟩ := h
  obtain ⟨n, hc, _⟩ := DataW.trod_bool ht h
  exact ⟨n, by simpa using hc⟩
theorem Tr.bytes {t e : TypeId} {v : Value} (ht : P.underlying t = some (.slice e)) (he : P.underlying e = some (.int .u8)) (hc : P.cellsOf e = 1) (h : Tr enc P w base spare held t [v]) :
    ∃ A n c l, v = .slice A n c ∧ Bs w A n l ∧ n ≤ c ∧ c ≤ maxLen := by
  obtain ⟨fuel, x, h⟩ := h
  rcases open_ints ht he hc h with ⟨hcs, _⟩ | ⟨x, l, c', zs, hcs, _, hl, hm, hz, _, hcell, hwz⟩
  · exact ⟨none, 0, 0, [], by simpa using hcs, Bs.nil_ _ _, by omega, by unfold maxLen; omega⟩
  · refine ⟨some x, l, c', _, by simpa using hcs, bs_of_ints (zs := zs) ?_ hcell hwz, hl, hm⟩
    split at hz <;> omega
/-- the fields of a struct of one-cell fields -/
theorem Tr.fields {t : TypeId} {fs : Array Field} {cs : List Value} (ht : P.underlying t = some (.struct fs)) (hone : oneCellFields P fs = true) (hC : P.cellsOf t = fs.size) (h : Tr enc P w base spare held t cs) :
    cs.length = fs.size ∧ ∀ (j : Nat) (f : Field), fs[j]? = some f → ∃ v, cs[j]? = some v ∧ Tr enc P w base spare held f.type [v] := by
  obtain ⟨fuel, x, h⟩ := h
  obtain ⟨ys, n, _, _, hlen, hyl, hf⟩ := DataW.trod_struct ht h
  rw [hC] at hlen
  refine ⟨hlen, fun j f hj => ?_⟩
  obtain ⟨ho, hk⟩ := hone_of hone j f hj
  have hjl : j < fs.size := (Array.getElem?_eq_some_iff.1 hj).1
  have h1 := hf j f hj
  rw [ho, hk] at h1
  have hone' : (cs.drop j).take 1 = [cs[j]'(by omega)] := by
    rw [List.drop_eq_getElem_cons (by omega)]; rfl
  rw [hone'] at h1
  exact ⟨_, List.getElem?_eq_getElem (by omega), n, _, h1.trans (List.getElem?_eq_getElem (by omega))⟩
/-- the elements of an array of one-cell elements -/
theorem Tr.elems {t e : TypeId} {n : Nat} {cs : List Value} (ht : P.underlying t = some (.array n e)) (hC : P.cellsOf t = n) (he : P.cellsOf e = 1) (h : Tr enc P w base spare held t cs) :
    cs.length = n ∧ ∀ (j : Nat) (v : Value), cs[j]? = some v → Tr enc P w base spare held e [v] := by
  obtain ⟨fuel, x, h⟩ := h
  obtain ⟨xs, m, _, _, hlen, hxl, hf⟩ := DataW.trod_array ht h
  rw [hC] at hlen
  refine ⟨hlen, fun j v hj => ?_⟩
  have hjl : j < cs.length := (List.getElem?_eq_some_iff.1 hj).1
  have h1 := hf j (by omega)
  rw [he, Nat.mul_one, List.drop_eq_getElem_cons hjl] at h1
  have hv : cs[j] = v := by rw [List.getElem?_eq_getElem hjl] at hj; simpa using hj
  simp only [List.take_succ_cons, List.take_zero, hv] at h1
  exact ⟨m, _, h1.trans (List.getElem?_eq_getElem (by omega))⟩
/-- the elements of a slice, each a row of size cells -/
theorem Tr.slice {t e : TypeId} {size : Nat} {v : Value} (ht : P.underlying t = some (.slice e)) (hC : P.cellsOf e = size) (hs : 0 < size) (h : Tr enc P w base spare held t [v]) :
    ∃ (A : Option Addr) (n c : Nat) (rows : List (List Value)), v = .slice A n c ∧ n ≤ c ∧ c ≤ maxLen ∧ rows.length = n ∧ (∀ r ∈ rows, r.length = size ∧ Tr enc P w base spare held e r) ∧ Rd w A n size rows.flatten := by
  obtain ⟨fuel, x, h⟩ := h
  rcases open_slice ht h with ⟨hcs, _⟩ | ⟨a, len, cap, m, n, D, Pl, hcs, _, hl, hm, hmm, _, hi⟩
  · exact ⟨none, 0, 0, [], by simpa using hcs, by omega, by unfold maxLen; omega, rfl, by simp, Rd.nil_ _ _ _⟩
  · rw [hC] at hi
    have hlm : len ≤ m := by rw [hmm]; split <;> omega
    have ex : ∀ i, i < len → ∃ cs', cs'.length = size ∧ Tr enc P w base spare held e cs' ∧ ∀ k, k < size → w.cell? (a.add (i * size + k)) = cs'[k]? := by
      intro i hil
      obtain ⟨cs', hc, ht'⟩ := hi i (by omega)
      obtain ⟨_, hcl, hat⟩ := World.cells?_some hc
      exact ⟨cs', hcl, ⟨n, _, ht'⟩, fun k hk => by rw [← hat k hk, Go.Deep.add_add]⟩
    have rowsOf : ∀ j, j ≤ len → ∃ rows : List (List Value), rows.length = j ∧ (∀ r ∈ rows, r.length = size ∧ Tr enc P w base spare held e r) ∧ ∀ i, i < j → ∀ k, k < size → w.cell? (a.add (i * size + k)) = (rows[i]?).bind (·[k]?) := by
      intro j
      induction j with
      | zero => exact fun _ => ⟨[], rfl, by simp, fun i hi => absurd hi (by omega)⟩
      | succ j ih =>
        intro hj
        obtain ⟨rows, h1, h2, h3⟩ := ih (by omega)
        obtain ⟨cs', g1, g2, g3⟩ := ex j (by omega)
        refine ⟨rows ++ [cs'], by simp [h1], ?_, ?_⟩
        · intro r hr
          rcases List.mem_append.1 hr with hr | hr
          · exact h2 r hr
          · simp only [List.mem_singleton] at hr; subst hr; exact ⟨g1, g2⟩
        · intro i hij k hk
          by_cases hij' : i = j
          · subst hij'
            rw [List.getElem?_append_right (by omega), h1]
            simpa using g3 k hk
          · rw [List.getElem?_append_left (by omega)]
            exact h3 i (by omega) k hk
    obtain ⟨rows, h1, h2, h3⟩ := rowsOf len (Nat.le_refl _)
    refine ⟨some a, len, cap, rows, by simpa using hcs, hl, hm, h1, h2, ?_, fun hp => ?_⟩
    · rw [flatten_len rows fun r hr => (h2 r hr).1, h1]
    · have h0 := h3 0 hp 0 hs
      have hr0 : rows[0]? = some (rows[0]'(by omega)) := List.getElem?_eq_getElem (by omega)
      have hl0 := (h2 _ (List.getElem_mem (by omega : 0 < rows.length))).1
      rw [hr0, Option.bind_some, List.getElem?_eq_getElem (by omega)] at h0
      obtain ⟨b, off, e0⟩ := add_spot h0
      have ha : a = ⟨b, off, none⟩ := by rw [← e0]; simp [Addr.add]
      subst ha
      refine ⟨b, off, rfl, World.block_lt_of_cell? w _ (by simpa [Addr.add] using h0), fun j u hu => ?_⟩
      have hj : j < rows.flatten.length := (List.getElem?_eq_some_iff.1 hu).1
      rw [flatten_len rows fun r hr => (h2 r hr).1, h1] at hj
      have hq : j / size < len := by rw [Nat.div_lt_iff_lt_mul hs]; exact hj
      have hk : j % size < size := Nat.mod_lt _ hs
      have e1 : j / size * size + j % size = j := by rw [Nat.mul_comm]; exact Nat.div_add_mod j size
      have := h3 (j / size) hq (j % size) hk
      rw [← flatten_get rows (fun r hr => (h2 r hr).1) _ _ hk, e1, plain_add] at this
      rw [this, hu]

/-- a struct by value: its cells -/
theorem open_struct {t : TypeId} {fs : Array Field} {v : Value} {d : DataW H} {p : List MemPlace} (ht : P.underlying t = some (.struct fs)) (hv : Value.okWide P w r b0 t v) (h : DataW.Trod enc P w base spare held t v d p) :
    ∃ cs : List Value, v = .agg cs.toArray ∧ Tr enc P w base spare held t cs := by
  obtain ⟨cs, rfl, _⟩ := okWide_struct ht hv
  have := Tr.of_trod h
  exact ⟨cs.toList, by simp, by simpa [Value.cells] using this⟩
theorem open_array {t e : TypeId} {n : Nat} {v : Value} {d : DataW H} {p : List MemPlace} (ht : P.underlying t = some (.array n e)) (hv : Value.okWide P w r b0 t v) (h : DataW.Trod enc P w base spare held t v d p) :
    ∃ cs : List Value, v = .agg cs.toArray ∧ Tr enc P w base spare held t cs := by
  simp only [Value.okWide, ht] at hv
  obtain ⟨cs, rfl, _⟩ := hv
  have := Tr.of_trod h
  exact ⟨cs.toList, by simp, by simpa [Value.cells] using this⟩
theorem open_slice_val {t e : TypeId} {v : Value} {d : DataW H} {p : List MemPlace} (ht : P.underlying t = some (.slice e)) (hv : Value.okWide P w r b0 t v) (h : DataW.Trod enc P w base spare held t v d p) :
    Tr enc P w base spare held t [v] := by
  obtain ⟨A, n, c, rfl⟩ := okWide_slice ht hv
  have := Tr.of_trod h
  simpa [Value.cells] using this
/-- two bools by value -/
theorem open_bool2 {t e : TypeId} {v : Value} {d : DataW H} {p : List MemPlace} (ht : P.underlying t = some (.array 2 e)) (he : P.underlying e = some .bool) (hC : P.cellsOf t = 2) (hE : P.cellsOf e = 1)
    (hv : Value.okWide P w r b0 t v) (h : DataW.Trod enc P w base spare held t v d p) : ∃ a b, v = .agg #[.bool a, .bool b] := by
  obtain ⟨cs, rfl, htr⟩ := open_array ht hv h
  obtain ⟨hl, hf⟩ := htr.elems ht hC hE
  match cs, hl with
  | [x, y], _ =>
    obtain ⟨a, rfl⟩ := (hf 0 x rfl).bool he
    obtain ⟨b, rfl⟩ := (hf 1 y rfl).bool he
    exact ⟨a, b, rfl⟩
end
end Go.Proofs.Ytcdnjhcddbkciaa
