/- Words for memory that all walks of this seat use: a slice that reads as cells, bytes, appends; no program in sight. -/
import Derived.WalkKit
import Derived.WalkSpells
import Derived.WalkLawsBesides
import Derived.Lib.Hide
import Derived.Maps.AppendAt
import Derived.Deep.AppendLies
import Derived.Deep.Draws
import Derived.RegionTactic
import Derived.OwnWalk
import Derived.Laws.BytesArg
import Derived.BigQuiet
import Derived.Deep.QuietTactic
import Derived.Deep.RegionWith
import Derived.Deep.RegionHeld3
import Derived.Deep.RegionLaw
import Derived.Deep.RegionLawGrows
import Derived.Deep.DeepFit
import Derived.Deep.DeepMust
import Derived.Deep.LoopGhost
import Derived.Deep.DeepCutAuto
namespace Go.Proofs.Ytcdnjhcddbkciaa
open Go.RowKit

theorem ret_int {k : IntKind} {a b : Int} (h : a = b) : Ending.returned (.int k a) = .returned (.int k b) := by rw [h]
theorem ret_bool {a b : Bool} (h : a = b) : Ending.returned (.bool a) = .returned (.bool b) := by rw [h]
theorem val_int {k : IntKind} {a b : Int} (h : a = b) : Value.int k a = .int k b := by rw [h]
theorem val_bool {a b : Bool} (h : a = b) : Value.bool a = .bool b := by rw [h]

theorem bne_t {a b : Int} (h : a ≠ b) : (a != b) = true := by rw [bne_iff_ne]; exact h
theorem bne_f {a b : Int} (h : a = b) : (a != b) = false := by rw [h]; simp
theorem beq_t {a b : Int} (h : a = b) : (a == b) = true := by rw [h]; simp
theorem beq_f {a b : Int} (h : a ≠ b) : (a == b) = false := by rw [beq_eq_false_iff_ne]; exact h
theorem dec_t {p : Prop} [Decidable p] (h : p) : decide p = true := by simpa using h
theorem dec_f {p : Prop} [Decidable p] (h : ¬ p) : decide p = false := by simpa using h

theorem plain_add (b off j : Nat) : (⟨b, off, none⟩ : Addr).add j = ⟨b, off + j, none⟩ := by
  unfold Addr.add; split <;> simp_all

/-- Nothing that was there has turned. -/
abbrev Ext (w w' : World) : Prop := Below w.heap.size w w'
theorem Ext.refl (w : World) : Ext w w := Below.refl _ _
theorem Ext.trans {a b c : World} (h : Ext a b) (k : Ext b c) : Ext a c := Below.trans h (k.mono h.size)
theorem Ext.alloc {a w : World} (h : Ext a w) (o : Obj) : Ext a (w.alloc o) := Below.alloc h h.size o
theorem Ext.drew {a w : World} (h : Ext a w) : Ext a w.drew := Below.drew h
theorem Ext.drewN {a w : World} (h : Ext a w) (n : Nat) : Ext a (w.drewN n) := ⟨h.os, h.tape, h.output, h.size, h.block⟩
theorem Ext.setCell {a w : World} (h : Ext a w) {p : Addr} (hp : a.heap.size ≤ p.block) (u : Value) : Ext a (w.setCell p u) := Below.setCell h hp u
theorem Ext.cell {w w' : World} (h : Ext w w') {p : Addr} {v : Value} (hc : w.cell? p = some v) : w'.cell? p = some v :=
  (Below.cell h (World.block_lt_of_cell? w p hc)).trans hc

/-- The slice of n elements at A, of size cells each, reads as the cells xs. -/
def Rd (w : World) (A : Option Addr) (n size : Nat) (xs : List Value) : Prop :=
  xs.length = n * size ∧ (0 < n → ∃ b off, A = some ⟨b, off, none⟩ ∧ b < w.heap.size ∧ ∀ j u, xs[j]? = some u → w.cell? ⟨b, off + j, none⟩ = some u)

section
variable {w w' : World} {n size : Nat} {A : Option Addr} {xs : List Value}
theorem Rd.nil_ (w : World) (A : Option Addr) (size : Nat) : Rd w A 0 size [] := ⟨by simp, fun h => absurd h (by omega)⟩
theorem Rd.keep (h : Rd w A n size xs) (hs : w.heap.size ≤ w'.heap.size) (hk : ∀ p v, w.cell? p = some v → w'.cell? p = some v) : Rd w' A n size xs :=
  ⟨h.1, fun hn => by
    obtain ⟨b, off, e, hb, hc⟩ := h.2 hn
    exact ⟨b, off, e, by omega, fun j u hu => hk _ _ (hc j u hu)⟩⟩
theorem Rd.ext (h : Rd w A n size xs) (he : Ext w w') : Rd w' A n size xs := h.keep he.size fun _ _ hc => he.cell hc
theorem Rd.alloc (h : Rd w A n size xs) (o : Obj) : Rd (w.alloc o) A n size xs := h.ext ((Ext.refl w).alloc o)
theorem Rd.drew (h : Rd w A n size xs) : Rd w.drew A n size xs := h
theorem Rd.drewN (h : Rd w A n size xs) (k : Nat) : Rd (w.drewN k) A n size xs := h
theorem Rd.len1 (h : Rd w A n 1 xs) : xs.length = n := by have := h.1; omega
theorem Rd.some_ (h : Rd w A n size xs) (hn : 0 < n) : ∃ b off, A = some ⟨b, off, none⟩ ∧ b < w.heap.size ∧ ∀ j u, xs[j]? = some u → w.cell? ⟨b, off + j, none⟩ = some u := h.2 hn
/-- a part of a slice: from lo on, m elements -/
theorem Rd.part (h : Rd w A n size xs) {lo m : Nat} (hm : lo + m ≤ n) (A' : Option Addr) (hA : 0 < m → ∀ b off, A = some ⟨b, off, none⟩ → A' = some ⟨b, off + lo * size, none⟩) :
    Rd w A' m size ((xs.drop (lo * size)).take (m * size)) := by
  have hl : lo * size + m * size ≤ n * size := by rw [← Nat.add_mul]; exact Nat.mul_le_mul_right _ hm
  refine ⟨by rw [List.length_take, List.length_drop, h.1]; omega, fun hp => ?_⟩
  obtain ⟨b, off, e, hb, hc⟩ := h.2 (by omega)
  refine ⟨b, off + lo * size, hA hp b off e, hb, fun j u hu => ?_⟩
  rw [List.getElem?_take] at hu
  split at hu
  · rw [List.getElem?_drop] at hu
    have := hc _ _ hu
    rw [show off + lo * size + j = off + (lo * size + j) by omega]
    exact this
  · cases hu
theorem Rd.of_own {base : Nat} {e : TypeId} {c : Nat} (h : w.ownsRow base e size (.slice A n c) n xs) : Rd w A n size xs := by
  refine ⟨h.1, fun hn => ?_⟩
  rcases h.2 with ⟨hv, h0⟩ | ⟨g, cap, cur, hv, hb, hg, _⟩
  · omega
  · have hA : A = some ⟨g, 0, none⟩ := by injection hv
    subst hA
    refine ⟨g, 0, rfl, (Array.getElem?_eq_some_iff.1 hg).1, fun j u hu => ?_⟩
    have := h.cells (g := g) rfl j u hu
    rwa [plain_add] at this
theorem Rd.block (w : World) (cs : Array Value) (t : TypeId) (n : Nat) (hn : cs.size = n * size) : Rd (w.alloc (.cells cs t)) (some ⟨w.heap.size, 0, none⟩) n size cs.toList := by
  refine ⟨by simpa using hn, fun _ => ⟨w.heap.size, 0, rfl, by simp, fun j u hu => ?_⟩⟩
  rw [cell_of_row _ _ _ cs t (0, 0) (heap_alloc_new w _)]
  simpa using hu
end

theorem own_ext {w w' : World} {base : Nat} {e : TypeId} {size n : Nat} {v : Value} {xs : List Value} (h : w.ownsRow base e size v n xs) (he : Ext w w') : w'.ownsRow base e size v n xs := by
  refine ⟨h.1, ?_⟩
  rcases h.2 with hn | ⟨g, cap, cur, rfl, hb, hgg, rest⟩
  · exact .inl hn
  · refine .inr ⟨g, cap, cur, rfl, hb, ?_, rest⟩
    rw [he.block g (Array.getElem?_eq_some_iff.1 hgg).1]
    exact hgg

theorem own_form {w : World} {base : Nat} {e : TypeId} {size n : Nat} {v : Value} {xs : List Value} (h : w.ownsRow base e size v n xs) : ∃ A c, v = .slice A n c ∧ n ≤ c := by
  rcases h.2 with ⟨rfl, h0⟩ | ⟨g, cap, cur, rfl, hb, hg, hc, _⟩
  · exact ⟨none, 0, by rw [h0], by omega⟩
  · exact ⟨_, _, rfl, hc⟩

theorem own_cells {w : World} {base : Nat} {e : TypeId} {size n : Nat} {v : Value} {xs ys : List Value} (h : w.ownsRow base e size v n xs) (hx : xs = ys) : w.ownsRow base e size v n ys := hx ▸ h

/-- Block g is just the cells l, of element type t; none is frozen. -/
def Blk (w : World) (g : Nat) (t : TypeId) (l : List Value) : Prop := w.heap[g]? = some (.cells l.toArray t (0, 0))
section
variable {w w' : World} {g : Nat} {t : TypeId} {l : List Value}
theorem Blk.lt (h : Blk w g t l) : g < w.heap.size := lt_of_block h
theorem Blk.cell (h : Blk w g t l) (i : Nat) : w.cell? ⟨g, i, none⟩ = l[i]? := by
  have := cell_of_row w g i l.toArray t (0, 0) h; simpa using this
theorem Blk.frozen (h : Blk w g t l) (i : Nat) : w.frozen? ⟨g, i, none⟩ = false := frozen_of_row w g i _ t h
theorem Blk.new (w : World) (t : TypeId) (l : List Value) : Blk (w.alloc (.cells l.toArray t)) w.heap.size t l := heap_alloc_new w _
theorem Blk.drew (h : Blk w g t l) : Blk w.drew g t l := h
theorem Blk.ext (h : Blk w g t l) (he : Ext w w') : Blk w' g t l := (he.block g h.lt).trans h
theorem Blk.alloc (h : Blk w g t l) (o : Obj) : Blk (w.alloc o) g t l := h.ext ((Ext.refl w).alloc o)
theorem Blk.set_ (h : Blk w g t l) (i : Nat) (u : Value) : Blk (w.setCell ⟨g, i, none⟩ u) g t (l.set i u) := by
  have := heap_setCell_same w g i l.toArray t u h
  unfold Blk
  rw [this]; simp
theorem Blk.far (h : Blk w g t l) {p : Addr} (hp : g ≠ p.block) (u : Value) : Blk (w.setCell p u) g t l := (heap_setCell_other w p g u hp).trans h
theorem Blk.grown {row : Option Nat} (h : Blk w g t l) (hb : w.grownBy w' row) (hg : some g ≠ row) : Blk w' g t l := (hb.block g h.lt hg).trans h
theorem Blk.ne_ {g' : Nat} {t' : TypeId} {l' : List Value} (h : Blk w g t l) (h' : Blk w g' t' l') (hne : t ≠ t') : g ≠ g' := by
  rintro rfl
  unfold Blk at h h'
  rw [h] at h'
  injection h' with h'
  injection h' with _ ht
  exact hne ht
theorem Blk.own {B size n : Nat} (h : Blk w g t l) (hB : B ≤ g) (hl : l.length = n * size) (hn : n ≤ maxLen) : w.ownsRow B t size (.slice (some ⟨g, 0, none⟩) n n) n l :=
  ⟨hl, .inr ⟨g, n, l.toArray, rfl, hB, h, Nat.le_refl _, hn, by simpa using hl, by simp [← hl]⟩⟩
end

/-- n cells alike -/
def zeros (z : Value) (n : Nat) : Array Value := (List.replicate n z).toArray
theorem zeros_blk (w : World) (z : Value) (n : Nat) (t : TypeId) : Blk (w.alloc (.cells (zeros z n) t)) w.heap.size t (List.replicate n z) := Blk.new w t _
theorem run_make1 {P : Program} {t e : TypeId} {z : Value} {bytes : Nat} (ht : P.underlying t = some (.slice e))
    (h : (P.info? e).map (fun i => (i.zero, i.size, i.bytes)) = some (some z, 1, bytes)) (hz : z.cells = #[z])
    (kl kc : IntKind) (n : Nat) (hb : bytes * n ≤ 281474976710656) (h63 : n ≤ 9223372036854775807) (w : World) :
    (Instr.makeSlice t (.int kl (n : Int)) (.int kc (n : Int))).run P w = .ok (.slice (some ⟨w.heap.size, 0, none⟩) n n) (w.alloc (.cells (zeros z n) e)) := by
  obtain ⟨i, h1, h2, h3, h4⟩ := info_parts h
  have hb' : (i.bytes : Int) * (n : Int) ≤ 281474976710656 := by
    rw [h4]; have : ((bytes * n : Nat) : Int) ≤ 281474976710656 := by omega
    rwa [Int.natCast_mul] at this
  have := run_make (P := P) w t e i z ht h1 h2 kl kc n n (by omega) (by omega) hb' (by omega)
  rw [this, h3, hz]
  have hm : madeCells #[z] n = zeros z n := by
    apply Array.ext'; rw [toList_madeCells_one]; simp [zeros]
  simp [hm]

/-! bytes -/
def bv (x : UInt8) : Value := .int .u8 (x.toNat : Int)
theorem bv_one (x : UInt8) : (bv x).oneCell' = true := rfl
theorem bvs_one (l : List UInt8) : ∀ u ∈ l.map bv, u.oneCell' = true := by
  intro u hu; obtain ⟨x, _, rfl⟩ := List.mem_map.1 hu; rfl

/-- The slice of n bytes at A reads as l. -/
def Bs (w : World) (A : Option Addr) (n : Nat) (l : List UInt8) : Prop := Rd w A n 1 (l.map bv)
section
variable {w w' : World} {n : Nat} {A : Option Addr} {l : List UInt8}
theorem Bs.len (h : Bs w A n l) : l.length = n := by have := h.1; simpa using this
theorem Bs.ext (h : Bs w A n l) (he : Ext w w') : Bs w' A n l := Rd.ext h he
theorem Bs.alloc (h : Bs w A n l) (o : Obj) : Bs (w.alloc o) A n l := Rd.alloc h o
theorem Bs.drew (h : Bs w A n l) : Bs w.drew A n l := h
theorem Bs.drewN (h : Bs w A n l) (k : Nat) : Bs (w.drewN k) A n l := h
theorem Bs.nil_ (w : World) (A : Option Addr) : Bs w A 0 [] := Rd.nil_ w A 1
theorem Bs.at_ (h : Bs w A n l) {k : Nat} (hk : k < n) : ∃ b off, A = some ⟨b, off, none⟩ ∧ w.cell? ⟨b, off + k, none⟩ = some (.int .u8 ((l[k]'(by rw [h.len]; exact hk)).toNat : Int)) := by
  obtain ⟨b, off, e, _, hc⟩ := h.2 (by omega)
  refine ⟨b, off, e, hc k _ ?_⟩
  rw [List.getElem?_map, List.getElem?_eq_getElem (by rw [h.len]; exact hk)]
  rfl
theorem Bs.part (h : Bs w A n l) {lo m : Nat} (hm : lo + m ≤ n) (A' : Option Addr) (hA : 0 < m → ∀ b off, A = some ⟨b, off, none⟩ → A' = some ⟨b, off + lo, none⟩) :
    Bs w A' m ((l.drop lo).take m) := by
  have := Rd.part h hm A' (by simpa using hA)
  simpa [Bs, List.map_take, List.map_drop] using this
/-- b[lo:] -/
theorem Bs.from_ (h : Bs w A n l) {lo cap : Nat} (hlo : lo ≤ n) (hc : n ≤ cap) : Bs w (if cap = lo then A else A.map (·.add lo)) (n - lo) (l.drop lo) := by
  have := h.part (lo := lo) (m := n - lo) (by omega) (if cap = lo then A else A.map (·.add lo)) (fun hp b off e => by
    rw [if_neg (by omega), e]; simp [plain_add])
  rwa [List.take_of_length_le (by rw [List.length_drop, h.len]; exact Nat.le_refl _)] at this
/-- b[:hi] -/
theorem Bs.upto (h : Bs w A n l) {hi : Nat} (hh : hi ≤ n) : Bs w A hi (l.take hi) := by
  have := h.part (lo := 0) (m := hi) (by omega) A (fun _ b off e => by simpa using e)
  simpa using this
theorem Bs.of_own {base : Nat} {e : TypeId} {c : Nat} (h : w.ownsRow base e 1 (.slice A n c) n (l.map bv)) : Bs w A n l := Rd.of_own h
end

/-- a string of bytes -/
def bstr (l : List UInt8) : ByteArray := ⟨l.toArray⟩
theorem bstr_toList (l : List UInt8) : (bstr l).data.toList = l := rfl
theorem bstr_list (l : List UInt8) : (bstr l).toList = l := ByteArray.toList_eq _
theorem bstr_eq {l l' : List UInt8} (h : l = l') : ((bstr l).toList == (bstr l').toList) = true := by rw [h]; simp
theorem bstr_ne {l l' : List UInt8} (h : l ≠ l') : ((bstr l).toList == (bstr l').toList) = false := by
  rw [bstr_list, bstr_list]; simpa using h
theorem bstr_inj {l l' : List UInt8} : bstr l = bstr l' ↔ l = l' := by
  constructor
  · intro h
    have : (bstr l).data.toList = (bstr l').data.toList := by rw [h]
    exact this
  · rintro rfl; rfl
/-- string(b) -/
theorem run_str {P : Program} {w : World} {src dst e : TypeId} {A : Option Addr} {n : Nat} {l : List UInt8} (hs : P.underlying src = some (.slice e)) (he : P.underlying e = some (.int .u8)) (hd : P.underlying dst = some .string)
    (hb : Bs w A n l) (c : Nat) : (convert src dst (.slice A n c)).run P w = .ok (.string (bstr l)) w := by
  have hlen := hb.len
  have key : ∀ b off, (∀ j u, (l.map bv)[j]? = some u → w.cell? ⟨b, off + j, none⟩ = some u) → (convert src dst (.slice (some ⟨b, off, none⟩) n c)).run P w = .ok (.string (bstr l)) w := by
    intro b off hc
    have := run_convert_bytes_arg (P := P) w src e hs he b off n c (l.map fun x => (x.toNat : Int)) (by simpa using hlen) (fun i hi => by
      rw [hc i (bv (l[i]'(by omega))) (by rw [List.getElem?_map, List.getElem?_eq_getElem (by omega)]; rfl)]
      simp [bv, List.getD, List.getElem?_eq_getElem (show i < l.length by omega)]) dst hd
    rw [this]
    congr 2
    simp only [strOfNums, bstr, List.map_map]
    congr 2
    exact (List.map_congr_left (g := id) fun x _ => by simp).trans (List.map_id _)
  rcases Nat.eq_zero_or_pos n with h0 | h0
  · subst h0
    have hl : l = [] := List.eq_nil_of_length_eq_zero hlen
    subst hl
    rcases A with _ | a
    · rw [run_convert_bytes_nil w src e hs he 0 c dst hd]; rfl
    · rw [run_convert_bytes_string w src dst e _ 0 c hs he hd]
      have := run_bytesToString (P := P) w a 0 c [] (by
        have := run_loadCells_list (P := P) w a [] (by intro j v hj; simp at hj)
        simpa using this)
      rw [this]; rfl
  · obtain ⟨b, off, rfl, _, hc⟩ := hb.2 h0
    exact key b off hc

/-- a byte by its number -/
def nv (x : Nat) : Value := .int .u8 (x : Int)
theorem nv_bv {x : Nat} (h : x < 256) : bv (UInt8.ofNat x) = nv x := by
  have e : (UInt8.ofNat x).toNat = x := by simp; omega
  unfold bv nv; rw [e]
theorem bv_nv (x : UInt8) : bv x = nv x.toNat := rfl
theorem map_nv {l : List Nat} (h : ∀ x ∈ l, x < 256) : (l.map UInt8.ofNat).map bv = l.map nv := by
  rw [List.map_map]; exact List.map_congr_left fun x hx => nv_bv (h x hx)
theorem or128 (x : Nat) (h : x < 256) : bits .or .u8 (x : Int) 128 = ((x % 128 + 128 : Nat) : Int) := by
  have : ∀ y : Fin 256, bits .or .u8 ((y.val : Nat) : Int) 128 = ((y.val % 128 + 128 : Nat) : Int) := by decide +kernel
  exact this ⟨x, h⟩
theorem and127 (x : Nat) (h : x < 256) : bits .and .u8 (x : Int) 127 = ((x % 128 : Nat) : Int) := by
  have : ∀ y : Fin 256, bits .and .u8 ((y.val : Nat) : Int) 127 = ((y.val % 128 : Nat) : Int) := by decide +kernel
  exact this ⟨x, h⟩
theorem replicate_cons_of_lt {α : Type} {n k : Nat} (h : k < n) (z : α) : List.replicate (n - k) z = z :: List.replicate (n - (k + 1)) z := by
  rw [show n - k = (n - (k + 1)) + 1 by omega, List.replicate_succ]
theorem set_mid {α : Type} (l r : List α) (a b : α) (k : Nat) (hk : k = l.length) : (l ++ a :: r).set k b = l ++ b :: r := by
  subst hk; rw [List.set_append_right _ _ (Nat.le_refl _)]; simp

/-! append onto a row of the call's own, whatever the source -/
section
variable {P : Program} (w : World)

theorem run_append_of_nil (base : Nat) (t ty e : TypeId) (i : TypeInfo) (size : Nat) (ht : P.underlying t = some (.slice e)) (hi : P.info? e = some i)
    (v : Value) (n : Nat) (xs : List Value) (hown : w.ownsRow base e size v n xs) (c : Nat) : (Builtin.append_ #[t, t] ty #[v, .slice none 0 c]).run P w = .ok v w := by
  rcases hown.2 with ⟨rfl, rfl⟩ | ⟨g, cap, cur, rfl, _, _, hnc, _⟩
  · simp [Builtin.append_, run_underlying ht, sizeOf, typeInfo, hi, Builtin.lenOf, Builtin.firstCells]
  · simp [Builtin.append_, run_underlying ht, sizeOf, typeInfo, hi, Builtin.lenOf, Builtin.firstCells, hnc, storeCells]

theorem run_append_rd (base : Nat) (t ty e : TypeId) (i : TypeInfo) (z : Value) (size bytes : Nat) (ht : P.underlying t = some (.slice e)) (hi : P.info? e = some i) (hz : i.zero = some z)
    (hsize : i.size = size) (hby : i.bytes = bytes) (hzs : z.cells.size = size) (hsz : 0 < size)
    (v : Value) (n : Nat) (xs : List Value) (hown : w.ownsRow base e size v n xs)
    (A : Option Addr) (m c : Nat) (news : List Value) (hr : Rd w A m size news) (h1 : ∀ u ∈ news, u.oneCell' = true)
    (h63 : n + m ≤ maxLen) (hbytes : (n + m) * bytes ≤ 140737488355328) (hbase : base ≤ w.heap.size) :
    ∃ v' w', (Builtin.append_ #[t, t] ty #[v, .slice A m c]).run P w = .ok v' w' ∧ w'.ownsRow base e size v' (n + m) (xs ++ news) ∧ w.grownBy w' v.ownBlock ∧
      (v'.ownBlock = v.ownBlock ∨ v'.ownBlock = some w.heap.size) := by
  rcases A with _ | ad
  · have hm : m = 0 := by
      rcases Nat.eq_zero_or_pos m with h0 | h0
      · exact h0
      · obtain ⟨b, off, h, _⟩ := hr.2 h0
        cases h
    subst hm
    have hn : news = [] := List.eq_nil_of_length_eq_zero (by simpa using hr.1)
    subst hn
    exact ⟨v, w, run_append_of_nil w base t ty e i size ht hi v n xs hown c, by simpa using hown, World.grownBy.refl w _, .inl rfl⟩
  · have hcells : ∀ j u, news[j]? = some u → w.cell? (ad.add j) = some u := by
      intro j u hu
      rcases Nat.eq_zero_or_pos m with h0 | h0
      · subst h0
        have hn : news = [] := List.eq_nil_of_length_eq_zero (by simpa using hr.1)
        subst hn
        simp at hu
      · obtain ⟨b, off, h, _, hc⟩ := hr.2 h0
        injection h with h
        subst h
        rw [plain_add]
        exact hc j u hu
    obtain ⟨v', w', hrun, h2, h3, _, h5⟩ := run_append_own_at (P := P) w base t ty e i z size bytes ht hi hz hsize hby hzs hsz v n xs hown ad m c news hr.1 hcells h1 h63 hbytes hbase
    exact ⟨v', w', hrun, h2, h3, h5⟩

theorem wp_append_rd {o : Oper} {a : Act} {K : Act → World → Prop} {Q : Exit → Act → World → Prop} (s x : Operand) (t : TypeId)
    (ho : o.op = .call { callee := .builtin .append, args := #[s, x], argTypes := #[t, t] })
    (base : Nat) (e : TypeId) (i : TypeInfo) (z : Value) (size bytes : Nat) (ht : P.underlying t = some (.slice e)) (hi : P.info? e = some i) (hz : i.zero = some z)
    (hsize : i.size = size) (hby : i.bytes = bytes) (hzs : z.cells.size = size) (hsz : 0 < size)
    (v : Value) (n : Nat) (xs : List Value) (hs : a.eval s = v) (hown : w.ownsRow base e size v n xs)
    (A : Option Addr) (m c : Nat) (news : List Value) (hx : a.eval x = .slice A m c) (hr : Rd w A m size news) (h1 : ∀ u ∈ news, u.oneCell' = true)
    (h63 : n + m ≤ maxLen) (hbytes : (n + m) * bytes ≤ 140737488355328) (hbase : base ≤ w.heap.size)
    (h : ∀ v' w', w'.ownsRow base e size v' (n + m) (xs ++ news) → w.grownBy w' v.ownBlock → (v'.ownBlock = v.ownBlock ∨ v'.ownBlock = some w.heap.size) → K (a.put o.dst v') w') : o.wp P a w K Q := by
  obtain ⟨v', w', hrun, h2, h3, h4⟩ := run_append_rd (P := P) w base t o.type e i z size bytes ht hi hz hsize hby hzs hsz v n xs hown A m c news hr h1 h63 hbytes hbase
  unfold Oper.wp execOp
  simp only [ho, resolve, invoke, builtin, Sem.run_bind, Sem.run_pure, Result.andThen_ok, List.map_toArray, List.map_cons, List.map_nil, hs, hx, hrun]
  exact h v' w' h2 h3 h4

theorem wpList_append_rd {ops : Array Oper} {rest : List Oper} {o : Oper} {a : Act} {Q : Exit → Act → World → Prop} (hgd : o.guard = none) (s x : Operand) (t : TypeId)
    (ho : o.op = .call { callee := .builtin .append, args := #[s, x], argTypes := #[t, t] })
    (base : Nat) (e : TypeId) (i : TypeInfo) (z : Value) (size bytes : Nat) (ht : P.underlying t = some (.slice e)) (hi : P.info? e = some i) (hz : i.zero = some z)
    (hsize : i.size = size) (hby : i.bytes = bytes) (hzs : z.cells.size = size) (hsz : 0 < size)
    (v : Value) (n : Nat) (xs : List Value) (hs : a.eval s = v) (hown : w.ownsRow base e size v n xs)
    (A : Option Addr) (m c : Nat) (news : List Value) (hx : a.eval x = .slice A m c) (hr : Rd w A m size news) (h1 : ∀ u ∈ news, u.oneCell' = true)
    (h63 : n + m ≤ maxLen) (hbytes : (n + m) * bytes ≤ 140737488355328) (hbase : base ≤ w.heap.size)
    (h : ∀ v' w', w'.ownsRow base e size v' (n + m) (xs ++ news) → w.grownBy w' v.ownBlock → (v'.ownBlock = v.ownBlock ∨ v'.ownBlock = some w.heap.size) → wpList P ops Q rest (a.put o.dst v') w') : wpList P ops Q (o :: rest) a w :=
  wpList_plain hgd fun _ hK => wp_append_rd w s x t ho base e i z size bytes ht hi hz hsize hby hzs hsz v n xs hs hown A m c news hx hr h1 h63 hbytes hbase fun v' w' h2 h3 h4 => hK _ _ (h v' w' h2 h3 h4)
end

/-- The type t is a slice of e; an element has size cells and bytes bytes. -/
structure SliceT (P : Program) (t e : TypeId) (size bytes : Nat) : Prop where
  ht : P.underlying t = some (.slice e)
  info : ∃ i z, P.info? e = some i ∧ i.zero = some z ∧ i.size = size ∧ i.bytes = bytes ∧ z.cells.size = size
theorem SliceT.mk' {P : Program} {t e : TypeId} {z : Value} {size bytes : Nat} (ht : P.underlying t = some (.slice e))
    (h : (P.info? e).map (fun i => (i.zero, i.size, i.bytes)) = some (some z, size, bytes)) (hz : z.cells.size = size) : SliceT P t e size bytes := by
  obtain ⟨i, h1, h2, h3, h4⟩ := info_parts h
  exact ⟨ht, i, z, h1, h2, h3, h4, hz⟩

/-- append onto a row of the call's own -/
theorem wpList_app {P : Program} {t e : TypeId} {size bytes : Nat} (T : SliceT P t e size bytes) (hsz : 0 < size) (w : World) {ops : Array Oper} {rest : List Oper} {o : Oper} {a : Act} {Q : Exit → Act → World → Prop}
    (hgd : o.guard = none) {s x : Operand} (ho : o.op = .call { callee := .builtin .append, args := #[s, x], argTypes := #[t, t] })
    {B : Nat} {v : Value} {n : Nat} {xs : List Value} (hs : a.eval s = v) (hown : w.ownsRow B e size v n xs)
    {A : Option Addr} {m c : Nat} {news : List Value} (hx : a.eval x = .slice A m c) (hr : Rd w A m size news) (h1 : ∀ u ∈ news, u.oneCell' = true)
    (h63 : n + m ≤ maxLen) (hbytes : (n + m) * bytes ≤ 140737488355328) (hB : B ≤ w.heap.size)
    (h : ∀ v' w', w'.ownsRow B e size v' (n + m) (xs ++ news) → w.grownBy w' v.ownBlock → (v'.ownBlock = v.ownBlock ∨ v'.ownBlock = some w.heap.size) → wpList P ops Q rest (a.put o.dst v') w') : wpList P ops Q (o :: rest) a w := by
  obtain ⟨i, z, hi, hz, hz1, hz2, hz3⟩ := T.info
  exact wpList_append_rd w hgd s x t ho B e i z size bytes T.ht hi hz hz1 hz2 hz3 hsz v n xs hs hown A m c news hx hr h1 h63 hbytes hB h

theorem rd_new1 (w : World) (v : Value) (t : TypeId) : Rd (w.alloc (.cells #[v] t)) (some ⟨w.heap.size, 0, none⟩) 1 1 [v] := Rd.block w #[v] t 1 rfl
theorem one1 {v : Value} (h : v.oneCell' = true) : ∀ u ∈ [v], u.oneCell' = true := by intro u hu; simp at hu; subst hu; exact h
theorem bv_ofNat {m : Nat} (h : m < 256) : bv (UInt8.ofNat m) = .int .u8 (m : Int) := by
  have e : (UInt8.ofNat m).toNat = m := by simp; omega
  unfold bv; rw [e]
/-- 'make' and a literal without elements own nothing -/
theorem own_empty (w : World) (e : TypeId) (size : Nat) : (w.alloc (.cells #[] e)).ownsRow w.heap.size e size (.slice (some ⟨w.heap.size, 0, none⟩) 0 0) 0 [] :=
  World.ownsRow_made w #[] 0 (Nat.le_refl _) (Nat.zero_le _) (by simp)

/-- behind an append onto a row of the call's own all that was there when the call began is as it was -/
theorem Below.app {B : Nat} {a w w' : World} {base : Nat} {e : TypeId} {size n : Nat} {v : Value} {xs : List Value} (h : Below B a w) (hg : w.grownBy w' v.ownBlock) (hB : B ≤ w.heap.size)
    (hown : w.ownsRow base e size v n xs) (hb : B ≤ base) : Below B a w' :=
  h.grown hg hB fun k hk => Nat.le_trans hb (hown.lt k hk).1

end Go.Proofs.Ytcdnjhcddbkciaa
