/- Words and walks that the last text of this claim stands on: Base, Varint, Tag, Varint2, Cut, App, TagC, Grow. No condition. -/
import Derived.WalkKit
import Derived.WalkSpells
import Derived.WalkLawsBesides
import Derived.Lib.Hide
import Derived.Maps.AppendAt
import Derived.Deep.AppendLies
import Derived.Deep.Draws
import Derived.RegionTactic
import Derived.OwnWalk
import Derived.Laws.BytesArg
import Derived.BigQuiet
import Derived.Deep.QuietTactic
import Derived.Deep.RegionWith
import Derived.Deep.RegionHeld3
import Derived.Deep.RegionLaw
import Derived.Deep.RegionLawGrows
import Derived.Deep.DeepFit
import Derived.Deep.DeepMust
import Derived.Deep.LoopGhost
import Derived.Deep.DeepCutAuto
/- Words for memory that all walks of this seat use: a slice that reads as cells, bytes, appends; no program in sight. -/
namespace Go.Proofs.YtiildgoaiookhaaGreat
open Go.RowKit

theorem ret_int {k : IntKind} {a b : Int} (h : a = b) : Ending.returned (.int k a) = .returned (.int k b) := by rw [h]
theorem ret_bool {a b : Bool} (h : a = b) : Ending.returned (.bool a) = .returned (.bool b) := by rw [h]
theorem val_int {k : IntKind} {a b : Int} (h : a = b) : Value.int k a = .int k b := by rw [h]
theorem val_bool {a b : Bool} (h : a = b) : Value.bool a = .bool b := by rw [h]

theorem bne_t {a b : Int} (h : a ≠ b) : (a != b) = true := by rw [bne_iff_ne]; exact h
theorem bne_f {a b : Int} (h : a = b) : (a != b) = false := by rw [h]; simp
theorem beq_t {a b : Int} (h : a = b) : (a == b) = true := by rw [h]; simp
theorem beq_f {a b : Int} (h : a ≠ b) : (a == b) = false := by rw [beq_eq_false_iff_ne]; exact h
theorem dec_t {p : Prop} [Decidable p] (h : p) : decide p = true := by simpa using h
theorem dec_f {p : Prop} [Decidable p] (h : ¬ p) : decide p = false := by simpa using h

theorem plain_add (b off j : Nat) : (⟨b, off, none⟩ : Addr).add j = ⟨b, off + j, none⟩ := by
  unfold Addr.add; split <;> simp_all

/-- Nothing that was there has turned. -/
abbrev Ext (w w' : World) : Prop := Below w.heap.size w w'
theorem Ext.refl (w : World) : Ext w w := Below.refl _ _
theorem Ext.trans {a b c : World} (h : Ext a b) (k : Ext b c) : Ext a c := Below.trans h (k.mono h.size)
theorem Ext.alloc {a w : World} (h : Ext a w) (o : Obj) : Ext a (w.alloc o) := Below.alloc h h.size o
theorem Ext.drew {a w : World} (h : Ext a w) : Ext a w.drew := Below.drew h
theorem Ext.drewN {a w : World} (h : Ext a w) (n : Nat) : Ext a (w.drewN n) := ⟨h.os, h.tape, h.output, h.size, h.block⟩
theorem Ext.setCell {a w : World} (h : Ext a w) {p : Addr} (hp : a.heap.size ≤ p.block) (u : Value) : Ext a (w.setCell p u) := Below.setCell h hp u
theorem Ext.cell {w w' : World} (h : Ext w w') {p : Addr} {v : Value} (hc : w.cell? p = some v) : w'.cell? p = some v :=
  (Below.cell h (World.block_lt_of_cell? w p hc)).trans hc

/-- The slice of n elements at A, of size cells each, reads as the cells xs. -/
def Rd (w : World) (A : Option Addr) (n size : Nat) (xs : List Value) : Prop :=
  xs.length = n * size ∧ (0 < n → ∃ b off, A = some ⟨b, off, none⟩ ∧ b < w.heap.size ∧ ∀ j u, xs[j]? = some u → w.cell? ⟨b, off + j, none⟩ = some u)

section
variable {w w' : World} {n size : Nat} {A : Option Addr} {xs : List Value}
theorem Rd.nil_ (w : World) (A : Option Addr) (size : Nat) : Rd w A 0 size [] := ⟨by simp, fun h => absurd h (by omega)⟩
theorem Rd.keep (h : Rd w A n size xs) (hs : w.heap.size ≤ w'.heap.size) (hk : ∀ p v, w.cell? p = some v → w'.cell? p = some v) : Rd w' A n size xs :=
  ⟨h.1, fun hn => by
    obtain ⟨b, off, e, hb, hc⟩ := h.2 hn
    exact ⟨b, off, e, by omega, fun j u hu => hk _ _ (hc j u hu)⟩⟩
theorem Rd.ext (h : Rd w A n size xs) (he : Ext w w') : Rd w' A n size xs := h.keep he.size fun _ _ hc => he.cell hc
theorem Rd.alloc (h : Rd w A n size xs) (o : Obj) : Rd (w.alloc o) A n size xs := h.ext ((Ext.refl w).alloc o)
theorem Rd.drew (h : Rd w A n size xs) : Rd w.drew A n size xs := h
theorem Rd.drewN (h : Rd w A n size xs) (k : Nat) : Rd (w.drewN k) A n size xs := h
theorem Rd.len1 (h : Rd w A n 1 xs) : xs.length = n := by have := h.1; omega
theorem Rd.some_ (h : Rd w A n size xs) (hn : 0 < n) : ∃ b off, A = some ⟨b, off, none⟩ ∧ b < w.heap.size ∧ ∀ j u, xs[j]? = some u → w.cell? ⟨b, off + j, none⟩ = some u := h.2 hn
/-- a part of a slice: from lo on, m elements -/
theorem Rd.part (h : Rd w A n size xs) {lo m : Nat} (hm : lo + m ≤ n) (A' : Option Addr) (hA : 0 < m → ∀ b off, A = some ⟨b, off, none⟩ → A' = some ⟨b, off + lo * size, none⟩) :
    Rd w A' m size ((xs.drop (lo * size)).take (m * size)) := by
  have hl : lo * size + m * size ≤ n * size := by rw [← Nat.add_mul]; exact Nat.mul_le_mul_right _ hm
  refine ⟨by rw [List.length_take, List.length_drop, h.1]; omega, fun hp => ?_⟩
  obtain ⟨b, off, e, hb, hc⟩ := h.2 (by omega)
  refine ⟨b, off + lo * size, hA hp b off e, hb, fun j u hu => ?_⟩
  rw [List.getElem?_take] at hu
  split at hu
  · rw [List.getElem?_drop] at hu
    have := hc _ _ hu
    rw [show off + lo * size + j = off + (lo * size + j) by omega]
    exact this
  · cases hu
theorem Rd.of_own {base : Nat} {e : TypeId} {c : Nat} (h : w.ownsRow base e size (.slice A n c) n xs) : Rd w A n size xs := by
  refine ⟨h.1, fun hn => ?_⟩
  rcases h.2 with ⟨hv, h0⟩ | ⟨g, cap, cur, hv, hb, hg, _⟩
  · omega
  · have hA : A = some ⟨g, 0, none⟩ := by injection hv
    subst hA
    refine ⟨g, 0, rfl, (Array.getElem?_eq_some_iff.1 hg).1, fun j u hu => ?_⟩
    have := h.cells (g := g) rfl j u hu
    rwa [plain_add] at this
theorem Rd.block (w : World) (cs : Array Value) (t : TypeId) (n : Nat) (hn : cs.size = n * size) : Rd (w.alloc (.cells cs t)) (some ⟨w.heap.size, 0, none⟩) n size cs.toList := by
  refine ⟨by simpa using hn, fun _ => ⟨w.heap.size, 0, rfl, by simp, fun j u hu => ?_⟩⟩
  rw [cell_of_row _ _ _ cs t (0, 0) (heap_alloc_new w _)]
  simpa using hu
end

theorem own_ext {w w' : World} {base : Nat} {e : TypeId} {size n : Nat} {v : Value} {xs : List Value} (h : w.ownsRow base e size v n xs) (he : Ext w w') : w'.ownsRow base e size v n xs := by
  refine ⟨h.1, ?_⟩
  rcases h.2 with hn | ⟨g, cap, cur, rfl, hb, hgg, rest⟩
  · exact .inl hn
  · refine .inr ⟨g, cap, cur, rfl, hb, ?_, rest⟩
    rw [he.block g (Array.getElem?_eq_some_iff.1 hgg).1]
    exact hgg

theorem own_form {w : World} {base : Nat} {e : TypeId} {size n : Nat} {v : Value} {xs : List Value} (h : w.ownsRow base e size v n xs) : ∃ A c, v = .slice A n c ∧ n ≤ c := by
  rcases h.2 with ⟨rfl, h0⟩ | ⟨g, cap, cur, rfl, hb, hg, hc, _⟩
  · exact ⟨none, 0, by rw [h0], by omega⟩
  · exact ⟨_, _, rfl, hc⟩

theorem own_cells {w : World} {base : Nat} {e : TypeId} {size n : Nat} {v : Value} {xs ys : List Value} (h : w.ownsRow base e size v n xs) (hx : xs = ys) : w.ownsRow base e size v n ys := hx ▸ h

/-- Block g is just the cells l, of element type t; none is frozen. -/
def Blk (w : World) (g : Nat) (t : TypeId) (l : List Value) : Prop := w.heap[g]? = some (.cells l.toArray t (0, 0))
section
variable {w w' : World} {g : Nat} {t : TypeId} {l : List Value}
theorem Blk.lt (h : Blk w g t l) : g < w.heap.size := lt_of_block h
theorem Blk.cell (h : Blk w g t l) (i : Nat) : w.cell? ⟨g, i, none⟩ = l[i]? := by
  have := cell_of_row w g i l.toArray t (0, 0) h; simpa using this
theorem Blk.frozen (h : Blk w g t l) (i : Nat) : w.frozen? ⟨g, i, none⟩ = false := frozen_of_row w g i _ t h
theorem Blk.new (w : World) (t : TypeId) (l : List Value) : Blk (w.alloc (.cells l.toArray t)) w.heap.size t l := heap_alloc_new w _
theorem Blk.drew (h : Blk w g t l) : Blk w.drew g t l := h
theorem Blk.ext (h : Blk w g t l) (he : Ext w w') : Blk w' g t l := (he.block g h.lt).trans h
theorem Blk.alloc (h : Blk w g t l) (o : Obj) : Blk (w.alloc o) g t l := h.ext ((Ext.refl w).alloc o)
theorem Blk.set_ (h : Blk w g t l) (i : Nat) (u : Value) : Blk (w.setCell ⟨g, i, none⟩ u) g t (l.set i u) := by
  have := heap_setCell_same w g i l.toArray t u h
  unfold Blk
  rw [this]; simp
theorem Blk.far (h : Blk w g t l) {p : Addr} (hp : g ≠ p.block) (u : Value) : Blk (w.setCell p u) g t l := (heap_setCell_other w p g u hp).trans h
theorem Blk.grown {row : Option Nat} (h : Blk w g t l) (hb : w.grownBy w' row) (hg : some g ≠ row) : Blk w' g t l := (hb.block g h.lt hg).trans h
theorem Blk.ne_ {g' : Nat} {t' : TypeId} {l' : List Value} (h : Blk w g t l) (h' : Blk w g' t' l') (hne : t ≠ t') : g ≠ g' := by
  rintro rfl
  unfold Blk at h h'
  rw [h] at h'
  injection h' with h'
  injection h' with _ ht
  exact hne ht
theorem Blk.own {B size n : Nat} (h : Blk w g t l) (hB : B ≤ g) (hl : l.length = n * size) (hn : n ≤ maxLen) : w.ownsRow B t size (.slice (some ⟨g, 0, none⟩) n n) n l :=
  ⟨hl, .inr ⟨g, n, l.toArray, rfl, hB, h, Nat.le_refl _, hn, by simpa using hl, by simp [← hl]⟩⟩
end

/-- n cells alike -/
def zeros (z : Value) (n : Nat) : Array Value := (List.replicate n z).toArray
theorem zeros_blk (w : World) (z : Value) (n : Nat) (t : TypeId) : Blk (w.alloc (.cells (zeros z n) t)) w.heap.size t (List.replicate n z) := Blk.new w t _
theorem run_make1 {P : Program} {t e : TypeId} {z : Value} {bytes : Nat} (ht : P.underlying t = some (.slice e))
    (h : (P.info? e).map (fun i => (i.zero, i.size, i.bytes)) = some (some z, 1, bytes)) (hz : z.cells = #[z])
    (kl kc : IntKind) (n : Nat) (hb : bytes * n ≤ 281474976710656) (h63 : n ≤ 9223372036854775807) (w : World) :
    (Instr.makeSlice t (.int kl (n : Int)) (.int kc (n : Int))).run P w = .ok (.slice (some ⟨w.heap.size, 0, none⟩) n n) (w.alloc (.cells (zeros z n) e)) := by
  obtain ⟨i, h1, h2, h3, h4⟩ := info_parts h
  have hb' : (i.bytes : Int) * (n : Int) ≤ 281474976710656 := by
    rw [h4]; have : ((bytes * n : Nat) : Int) ≤ 281474976710656 := by omega
    rwa [Int.natCast_mul] at this
  have := run_make (P := P) w t e i z ht h1 h2 kl kc n n (by omega) (by omega) hb' (by omega)
  rw [this, h3, hz]
  have hm : madeCells #[z] n = zeros z n := by
    apply Array.ext'; rw [toList_madeCells_one]; simp [zeros]
  simp [hm]

/-! bytes -/
def bv (x : UInt8) : Value := .int .u8 (x.toNat : Int)
theorem bv_one (x : UInt8) : (bv x).oneCell' = true := rfl
theorem bvs_one (l : List UInt8) : ∀ u ∈ l.map bv, u.oneCell' = true := by
  intro u hu; obtain ⟨x, _, rfl⟩ := List.mem_map.1 hu; rfl

/-- The slice of n bytes at A reads as l. -/
def Bs (w : World) (A : Option Addr) (n : Nat) (l : List UInt8) : Prop := Rd w A n 1 (l.map bv)
section
variable {w w' : World} {n : Nat} {A : Option Addr} {l : List UInt8}
theorem Bs.len (h : Bs w A n l) : l.length = n := by have := h.1; simpa using this
theorem Bs.ext (h : Bs w A n l) (he : Ext w w') : Bs w' A n l := Rd.ext h he
theorem Bs.alloc (h : Bs w A n l) (o : Obj) : Bs (w.alloc o) A n l := Rd.alloc h o
theorem Bs.drew (h : Bs w A n l) : Bs w.drew A n l := h
theorem Bs.drewN (h : Bs w A n l) (k : Nat) : Bs (w.drewN k) A n l := h
theorem Bs.nil_ (w : World) (A : Option Addr) : Bs w A 0 [] := Rd.nil_ w A 1
theorem Bs.at_ (h : Bs w A n l) {k : Nat} (hk : k < n) : ∃ b off, A = some ⟨b, off, none⟩ ∧ w.cell? ⟨b, off + k, none⟩ = some (.int .u8 ((l[k]'(by rw [h.len]; exact hk)).toNat : Int)) := by
  obtain ⟨b, off, e, _, hc⟩ := h.2 (by omega)
  refine ⟨b, off, e, hc k _ ?_⟩
  rw [List.getElem?_map, List.getElem?_eq_getElem (by rw [h.len]; exact hk)]
  rfl
theorem Bs.part (h : Bs w A n l) {lo m : Nat} (hm : lo + m ≤ n) (A' : Option Addr) (hA : 0 < m → ∀ b off, A = some ⟨b, off, none⟩ → A' = some ⟨b, off + lo, none⟩) :
    Bs w A' m ((l.drop lo).take m) := by
  have := Rd.part h hm A' (by simpa using hA)
  simpa [Bs, List.map_take, List.map_drop] using this
/-- b[lo:] -/
theorem Bs.from_ (h : Bs w A n l) {lo cap : Nat} (hlo : lo ≤ n) (hc : n ≤ cap) : Bs w (if cap = lo then A else A.map (·.add lo)) (n - lo) (l.drop lo) := by
  have := h.part (lo := lo) (m := n - lo) (by omega) (if cap = lo then A else A.map (·.add lo)) (fun hp b off e => by
    rw [if_neg (by omega), e]; simp [plain_add])
  rwa [List.take_of_length_le (by rw [List.length_drop, h.len]; exact Nat.le_refl _)] at this
/-- b[:hi] -/
theorem Bs.upto (h : Bs w A n l) {hi : Nat} (hh : hi ≤ n) : Bs w A hi (l.take hi) := by
  have := h.part (lo := 0) (m := hi) (by omega) A (fun _ b off e => by simpa using e)
  simpa using this
theorem Bs.of_own {base : Nat} {e : TypeId} {c : Nat} (h : w.ownsRow base e 1 (.slice A n c) n (l.map bv)) : Bs w A n l := Rd.of_own h
end

/-- a string of bytes -/
def bstr (l : List UInt8) : ByteArray := ⟨l.toArray⟩
theorem bstr_toList (l : List UInt8) : (bstr l).data.toList = l := rfl
theorem bstr_list (l : List UInt8) : (bstr l).toList = l := ByteArray.toList_eq _
theorem bstr_eq {l l' : List UInt8} (h : l = l') : ((bstr l).toList == (bstr l').toList) = true := by rw [h]; simp
theorem bstr_ne {l l' : List UInt8} (h : l ≠ l') : ((bstr l).toList == (bstr l').toList) = false := by
  rw [bstr_list, bstr_list]; simpa using h
theorem bstr_inj {l l' : List UInt8} : bstr l = bstr l' ↔ l = l' := by
  constructor
  · intro h
    have : (bstr l).data.toList = (bstr l').data.toList := by rw [h]
    exact this
  · rintro rfl; rfl
/-- string(b) -/
theorem run_str {P : Program} {w : World} {src dst e : TypeId} {A : Option Addr} {n : Nat} {l : List UInt8} (hs : P.underlying src = some (.slice e)) (he : P.underlying e = some (.int .u8)) (hd : P.underlying dst = some .string)
    (hb : Bs w A n l) (c : Nat) : (convert src dst (.slice A n c)).run P w = .ok (.string (bstr l)) w := by
  have hlen := hb.len
  have key : ∀ b off, (∀ j u, (l.map bv)[j]? = some u → w.cell? ⟨b, off + j, none⟩ = some u) → (convert src dst (.slice (some ⟨b, off, none⟩) n c)).run P w = .ok (.string (bstr l)) w := by
    intro b off hc
    have := run_convert_bytes_arg (P := P) w src e hs he b off n c (l.map fun x => (x.toNat : Int)) (by simpa using hlen) (fun i hi => by
      rw [hc i (bv (l[i]'(by omega))) (by rw [List.getElem?_map, List.getElem?_eq_getElem (by omega)]; rfl)]
      simp [bv, List.getD, List.getElem?_eq_getElem (show i < l.length by omega)]) dst hd
    rw [this]
    congr 2
    simp only [strOfNums, bstr, List.map_map]
    congr 2
    exact (List.map_congr_left (g := id) fun x _ => by simp).trans (List.map_id _)
  rcases Nat.eq_zero_or_pos n with h0 | h0
  · subst h0
    have hl : l = [] := List.eq_nil_of_length_eq_zero hlen
    subst hl
    rcases A with _ | a
    · rw [run_convert_bytes_nil w src e hs he 0 c dst hd]; rfl
    · rw [run_convert_bytes_string w src dst e _ 0 c hs he hd]
      have := run_bytesToString (P := P) w a 0 c [] (by
        have := run_loadCells_list (P := P) w a [] (by intro j v hj; simp at hj)
        simpa using this)
      rw [this]; rfl
  · obtain ⟨b, off, rfl, _, hc⟩ := hb.2 h0
    exact key b off hc

/-- a byte by its number -/
def nv (x : Nat) : Value := .int .u8 (x : Int)
theorem nv_bv {x : Nat} (h : x < 256) : bv (UInt8.ofNat x) = nv x := by
  have e : (UInt8.ofNat x).toNat = x := by simp; omega
  unfold bv nv; rw [e]
theorem bv_nv (x : UInt8) : bv x = nv x.toNat := rfl
theorem map_nv {l : List Nat} (h : ∀ x ∈ l, x < 256) : (l.map UInt8.ofNat).map bv = l.map nv := by
  rw [List.map_map]; exact List.map_congr_left fun x hx => nv_bv (h x hx)
theorem or128 (x : Nat) (h : x < 256) : bits .or .u8 (x : Int) 128 = ((x % 128 + 128 : Nat) : Int) := by
  have : ∀ y : Fin 256, bits .or .u8 ((y.val : Nat) : Int) 128 = ((y.val % 128 + 128 : Nat) : Int) := by decide +kernel
  exact this ⟨x, h⟩
theorem and127 (x : Nat) (h : x < 256) : bits .and .u8 (x : Int) 127 = ((x % 128 : Nat) : Int) := by
  have : ∀ y : Fin 256, bits .and .u8 ((y.val : Nat) : Int) 127 = ((y.val % 128 : Nat) : Int) := by decide +kernel
  exact this ⟨x, h⟩
theorem replicate_cons_of_lt {α : Type} {n k : Nat} (h : k < n) (z : α) : List.replicate (n - k) z = z :: List.replicate (n - (k + 1)) z := by
  rw [show n - k = (n - (k + 1)) + 1 by omega, List.replicate_succ]
theorem set_mid {α : Type} (l r : List α) (a b : α) (k : Nat) (hk : k = l.length) : (l ++ a :: r).set k b = l ++ b :: r := by
  subst hk; rw [List.set_append_right _ _ (Nat.le_refl _)]; simp

/-! append onto a row of the call's own, whatever the source -/
section
variable {P : Program} (w : World)

theorem run_append_of_nil (base : Nat) (t ty e : TypeId) (i : TypeInfo) (size : Nat) (ht : P.underlying t = some (.slice e)) (hi : P.info? e = some i)
    (v : Value) (n : Nat) (xs : List Value) (hown : w.ownsRow base e size v n xs) (c : Nat) : (Builtin.append_ #[t, t] ty #[v, .slice none 0 c]).run P w = .ok v w := by
  rcases hown.2 with ⟨rfl, rfl⟩ | ⟨g, cap, cur, rfl, _, _, hnc, _⟩
  · simp [Builtin.append_, run_underlying ht, sizeOf, typeInfo, hi, Builtin.lenOf, Builtin.firstCells]
  · simp [Builtin.append_, run_underlying ht, sizeOf, typeInfo, hi, Builtin.lenOf, Builtin.firstCells, hnc, storeCells]

theorem run_append_rd (base : Nat) (t ty e : TypeId) (i : TypeInfo) (z : Value) (size bytes : Nat) (ht : P.underlying t = some (.slice e)) (hi : P.info? e = some i) (hz : i.zero = some z)
    (hsize : i.size = size) (hby : i.bytes = bytes) (hzs : z.cells.size = size) (hsz : 0 < size)
    (v : Value) (n : Nat) (xs : List Value) (hown : w.ownsRow base e size v n xs)
    (A : Option Addr) (m c : Nat) (news : List Value) (hr : Rd w A m size news) (h1 : ∀ u ∈ news, u.oneCell' = true)
    (h63 : n + m ≤ maxLen) (hbytes : (n + m) * bytes ≤ 140737488355328) (hbase : base ≤ w.heap.size) :
    ∃ v' w', (Builtin.append_ #[t, t] ty #[v, .slice A m c]).run P w = .ok v' w' ∧ w'.ownsRow base e size v' (n + m) (xs ++ news) ∧ w.grownBy w' v.ownBlock ∧
      (v'.ownBlock = v.ownBlock ∨ v'.ownBlock = some w.heap.size) := by
  rcases A with _ | ad
  · have hm : m = 0 := by
      rcases Nat.eq_zero_or_pos m with h0 | h0
      · exact h0
      · obtain ⟨b, off, h, _⟩ := hr.2 h0
        cases h
    subst hm
    have hn : news = [] := List.eq_nil_of_length_eq_zero (by simpa using hr.1)
    subst hn
    exact ⟨v, w, run_append_of_nil w base t ty e i size ht hi v n xs hown c, by simpa using hown, World.grownBy.refl w _, .inl rfl⟩
  · have hcells : ∀ j u, news[j]? = some u → w.cell? (ad.add j) = some u := by
      intro j u hu
      rcases Nat.eq_zero_or_pos m with h0 | h0
      · subst h0
        have hn : news = [] := List.eq_nil_of_length_eq_zero (by simpa using hr.1)
        subst hn
        simp at hu
      · obtain ⟨b, off, h, _, hc⟩ := hr.2 h0
        injection h with h
        subst h
        rw [plain_add]
        exact hc j u hu
    obtain ⟨v', w', hrun, h2, h3, _, h5⟩ := run_append_own_at (P := P) w base t ty e i z size bytes ht hi hz hsize hby hzs hsz v n xs hown ad m c news hr.1 hcells h1 h63 hbytes hbase
    exact ⟨v', w', hrun, h2, h3, h5⟩

theorem wp_append_rd {o : Oper} {a : Act} {K : Act → World → Prop} {Q : Exit → Act → World → Prop} (s x : Operand) (t : TypeId)
    (ho : o.op = .call { callee := .builtin .append, args := #[s, x], argTypes := #[t, t] })
    (base : Nat) (e : TypeId) (i : TypeInfo) (z : Value) (size bytes : Nat) (ht : P.underlying t = some (.slice e)) (hi : P.info? e = some i) (hz : i.zero = some z)
    (hsize : i.size = size) (hby : i.bytes = bytes) (hzs : z.cells.size = size) (hsz : 0 < size)
    (v : Value) (n : Nat) (xs : List Value) (hs : a.eval s = v) (hown : w.ownsRow base e size v n xs)
    (A : Option Addr) (m c : Nat) (news : List Value) (hx : a.eval x = .slice A m c) (hr : Rd w A m size news) (h1 : ∀ u ∈ news, u.oneCell' = true)
    (h63 : n + m ≤ maxLen) (hbytes : (n + m) * bytes ≤ 140737488355328) (hbase : base ≤ w.heap.size)
    (h : ∀ v' w', w'.ownsRow base e size v' (n + m) (xs ++ news) → w.grownBy w' v.ownBlock → (v'.ownBlock = v.ownBlock ∨ v'.ownBlock = some w.heap.size) → K (a.put o.dst v') w') : o.wp P a w K Q := by
  obtain ⟨v', w', hrun, h2, h3, h4⟩ := run_append_rd (P := P) w base t o.type e i z size bytes ht hi hz hsize hby hzs hsz v n xs hown A m c news hr h1 h63 hbytes hbase
  unfold Oper.wp execOp
  simp only [ho, resolve, invoke, builtin, Sem.run_bind, Sem.run_pure, Result.andThen_ok, List.map_toArray, List.map_cons, List.map_nil, hs, hx, hrun]
  exact h v' w' h2 h3 h4

theorem wpList_append_rd {ops : Array Oper} {rest : List Oper} {o : Oper} {a : Act} {Q : Exit → Act → World → Prop} (hgd : o.guard = none) (s x : Operand) (t : TypeId)
    (ho : o.op = .call { callee := .builtin .append, args := #[s, x], argTypes := #[t, t] })
    (base : Nat) (e : TypeId) (i : TypeInfo) (z : Value) (size bytes : Nat) (ht : P.underlying t = some (.slice e)) (hi : P.info? e = some i) (hz : i.zero = some z)
    (hsize : i.size = size) (hby : i.bytes = bytes) (hzs : z.cells.size = size) (hsz : 0 < size)
    (v : Value) (n : Nat) (xs : List Value) (hs : a.eval s = v) (hown : w.ownsRow base e size v n xs)
    (A : Option Addr) (m c : Nat) (news : List Value) (hx : a.eval x = .slice A m c) (hr : Rd w A m size news) (h1 : ∀ u ∈ news, u.oneCell' = true)
    (h63 : n + m ≤ maxLen) (hbytes : (n + m) * bytes ≤ 140737488355328) (hbase : base ≤ w.heap.size)
    (h : ∀ v' w', w'.ownsRow base e size v' (n + m) (xs ++ news) → w.grownBy w' v.ownBlock → (v'.ownBlock = v.ownBlock ∨ v'.ownBlock = some w.heap.size) → wpList P ops Q rest (a.put o.dst v') w') : wpList P ops Q (o :: rest) a w :=
  wpList_plain hgd fun _ hK => wp_append_rd w s x t ho base e i z size bytes ht hi hz hsize hby hzs hsz v n xs hs hown A m c news hx hr h1 h63 hbytes hbase fun v' w' h2 h3 h4 => hK _ _ (h v' w' h2 h3 h4)
end

/-- The type t is a slice of e; an element has size cells and bytes bytes. -/
structure SliceT (P : Program) (t e : TypeId) (size bytes : Nat) : Prop where
  ht : P.underlying t = some (.slice e)
  info : ∃ i z, P.info? e = some i ∧ i.zero = some z ∧ i.size = size ∧ i.bytes = bytes ∧ z.cells.size = size
theorem SliceT.mk' {P : Program} {t e : TypeId} {z : Value} {size bytes : Nat} (ht : P.underlying t = some (.slice e))
    (h : (P.info? e).map (fun i => (i.zero, i.size, i.bytes)) = some (some z, size, bytes)) (hz : z.cells.size = size) : SliceT P t e size bytes := by
  obtain ⟨i, h1, h2, h3, h4⟩ := info_parts h
  exact ⟨ht, i, z, h1, h2, h3, h4, hz⟩

/-- append onto a row of the call's own -/
theorem wpList_app {P : Program} {t e : TypeId} {size bytes : Nat} (T : SliceT P t e size bytes) (hsz : 0 < size) (w : World) {ops : Array Oper} {rest : List Oper} {o : Oper} {a : Act} {Q : Exit → Act → World → Prop}
    (hgd : o.guard = none) {s x : Operand} (ho : o.op = .call { callee := .builtin .append, args := #[s, x], argTypes := #[t, t] })
    {B : Nat} {v : Value} {n : Nat} {xs : List Value} (hs : a.eval s = v) (hown : w.ownsRow B e size v n xs)
    {A : Option Addr} {m c : Nat} {news : List Value} (hx : a.eval x = .slice A m c) (hr : Rd w A m size news) (h1 : ∀ u ∈ news, u.oneCell' = true)
    (h63 : n + m ≤ maxLen) (hbytes : (n + m) * bytes ≤ 140737488355328) (hB : B ≤ w.heap.size)
    (h : ∀ v' w', w'.ownsRow B e size v' (n + m) (xs ++ news) → w.grownBy w' v.ownBlock → (v'.ownBlock = v.ownBlock ∨ v'.ownBlock = some w.heap.size) → wpList P ops Q rest (a.put o.dst v') w') : wpList P ops Q (o :: rest) a w := by
  obtain ⟨i, z, hi, hz, hz1, hz2, hz3⟩ := T.info
  exact wpList_append_rd w hgd s x t ho B e i z size bytes T.ht hi hz hz1 hz2 hz3 hsz v n xs hs hown A m c news hx hr h1 h63 hbytes hB h

theorem rd_new1 (w : World) (v : Value) (t : TypeId) : Rd (w.alloc (.cells #[v] t)) (some ⟨w.heap.size, 0, none⟩) 1 1 [v] := Rd.block w #[v] t 1 rfl
theorem one1 {v : Value} (h : v.oneCell' = true) : ∀ u ∈ [v], u.oneCell' = true := by intro u hu; simp at hu; subst hu; exact h
theorem bv_ofNat {m : Nat} (h : m < 256) : bv (UInt8.ofNat m) = .int .u8 (m : Int) := by
  have e : (UInt8.ofNat m).toNat = m := by simp; omega
  unfold bv; rw [e]
/-- 'make' and a literal without elements own nothing -/
theorem own_empty (w : World) (e : TypeId) (size : Nat) : (w.alloc (.cells #[] e)).ownsRow w.heap.size e size (.slice (some ⟨w.heap.size, 0, none⟩) 0 0) 0 [] :=
  World.ownsRow_made w #[] 0 (Nat.le_refl _) (Nat.zero_le _) (by simp)

/-- behind an append onto a row of the call's own all that was there when the call began is as it was -/
theorem Below.app {B : Nat} {a w w' : World} {base : Nat} {e : TypeId} {size n : Nat} {v : Value} {xs : List Value} (h : Below B a w) (hg : w.grownBy w' v.ownBlock) (hB : B ≤ w.heap.size)
    (hown : w.ownsRow base e size v n xs) (hb : B ≤ base) : Below B a w' :=
  h.grown hg hB fun k hk => Nat.le_trans hb (hown.lt k hk).1

end Go.Proofs.YtiildgoaiookhaaGreat

/- Numbers in few bytes, in plain words: how many groups, the bytes, the taking. No program in sight. -/
namespace Go.Proofs.YtiildgoaiookhaaGreat
open Go.RowKit

/-- how many bytes a number has -/
def vsize (n : Nat) : Nat := if h : n < 128 then 1 else vsize (n / 128) + 1
termination_by n
decreasing_by omega

theorem vsize_pos (n : Nat) : 1 ≤ vsize n := by rw [vsize]; split <;> omega
theorem vsize_le : ∀ (k n : Nat), n < 128 ^ (k+1) → vsize n ≤ k + 1 := by
  intro k
  induction k with
  | zero => intro n h; rw [vsize]; simp at h; simp [h]
  | succ k ih =>
    intro n h
    rw [vsize]
    split
    · omega
    · have := ih (n / 128) (by rw [Nat.div_lt_iff_lt_mul (by omega)]; rw [Nat.pow_succ] at h; exact h)
      omega
theorem vsize_small {n : Nat} (h : n < 128) : vsize n = 1 := by rw [vsize]; simp [h]
theorem vsize_big {n : Nat} (h : ¬ n < 128) : vsize n = vsize (n / 128) + 1 := by rw [vsize]; simp [h]

/-- the bytes of a number -/
def vput (n : Nat) : List UInt8 := if h : n < 128 then [UInt8.ofNat n] else UInt8.ofNat (n % 128 + 128) :: vput (n / 128)
termination_by n
decreasing_by omega
theorem vput_small {n : Nat} (h : n < 128) : vput n = [UInt8.ofNat n] := by rw [vput]; simp [h]
theorem vput_big {n : Nat} (h : ¬ n < 128) : vput n = UInt8.ofNat (n % 128 + 128) :: vput (n / 128) := by rw [vput]; simp [h]
theorem vput_len (n : Nat) : (vput n).length = vsize n := by
  induction n using Nat.strongRecOn with
  | _ n ih =>
    by_cases h : n < 128
    · rw [vput_small h, vsize_small h]; rfl
    · rw [vput_big h, vsize_big h, List.length_cons, ih _ (by omega)]

/-- a number of 64 bits (behind a name: the numeral is long) -/
def U64 (n : Nat) : Prop := n < 18446744073709551616
theorem U64.lt {n : Nat} (h : U64 n) : n < 18446744073709551616 := h
theorem U64.size {n : Nat} (h : U64 n) : vsize n ≤ 10 := vsize_le 9 n (by have := h.lt; omega)
theorem U64.le {n m : Nat} (h : U64 n) (hm : m ≤ n) : U64 m := Nat.lt_of_le_of_lt hm h
theorem U64.wrap {n : Nat} (h : U64 n) : IntKind.u64.wrap (n : Int) = (n : Int) := by
  have := h.lt
  simp [IntKind.wrap, IntKind.bits, IntKind.signed]
  omega
theorem U64.div {n : Nat} (h : U64 n) (m : Nat) : U64 (n / m) := Nat.lt_of_le_of_lt (Nat.div_le_self _ _) h
theorem U64.mod {n : Nat} (h : U64 n) (m : Nat) : U64 (n % m) := Nat.lt_of_le_of_lt (Nat.mod_le _ _) h

/-- k bytes of a number, all of which say that more follow -/
def vraw : Nat → Nat → List Nat
  | 0, _ => []
  | k + 1, n => (n % 128 + 128) :: vraw k (n / 128)
theorem vraw_len : ∀ k n, (vraw k n).length = k
  | 0, _ => rfl
  | k + 1, n => by simp [vraw, vraw_len k]
theorem vraw_lt : ∀ k n, ∀ x ∈ vraw k n, 128 ≤ x ∧ x < 256
  | 0, _, x, h => by simp [vraw] at h
  | k + 1, n, x, h => by
    simp only [vraw, List.mem_cons] at h
    rcases h with rfl | h
    · omega
    · exact vraw_lt k _ x h
theorem vput_lt (n : Nat) : ∀ x, (vraw (vsize n) n)[vsize n - 1]? = some x → 128 ≤ x ∧ x < 256 := fun x h => vraw_lt _ _ x (List.mem_of_getElem? h)
theorem vraw_put (n : Nat) : ∃ x, x < 128 ∧ (vraw (vsize n) n)[vsize n - 1]? = some (x + 128) ∧ ((vraw (vsize n) n).set (vsize n - 1) x).map UInt8.ofNat = vput n := by
  induction n using Nat.strongRecOn with
  | _ n ih =>
    by_cases h : n < 128
    · refine ⟨n, h, ?_, ?_⟩
      · simp only [vsize_small h, vraw]; simp; omega
      · simp only [vsize_small h, vraw, vput_small h]; simp
    · obtain ⟨x, hx, h1, h2⟩ := ih (n / 128) (by omega)
      have hp := vsize_pos (n / 128)
      obtain ⟨k, hk⟩ : ∃ k, vsize (n / 128) = k + 1 := ⟨vsize (n / 128) - 1, by omega⟩
      refine ⟨x, hx, ?_, ?_⟩
      · rw [vsize_big h, vraw, Nat.add_sub_cancel, hk, List.getElem?_cons_succ]
        rw [hk] at h1; simpa using h1
      · rw [vsize_big h, vraw, Nat.add_sub_cancel, hk, List.set_cons_succ, List.map_cons, vput_big h]
        rw [hk] at h2
        rw [← h2]; rfl

/-- the taking: f bytes at most are looked at yet; k lie behind, which come to m -/
def vtk : Nat → List UInt8 → Nat → Nat → Nat × Nat × Nat
  | 0, _, _, _ => (0, 0, 3)
  | _ + 1, [], _, _ => (0, 0, 2)
  | f + 1, x :: r, k, m =>
    if 0 < k ∧ x.toNat = 0 then (0, 0, 3) else if k = 9 ∧ 1 < x.toNat then (0, 0, 3)
    else if x.toNat < 128 then (m + x.toNat % 128 * 128 ^ k, k + 1, 0) else vtk f r (k + 1) (m + x.toNat % 128 * 128 ^ k)
/-- what is taken of bytes: the number, how many bytes it has, an error's number -/
def vtake (l : List UInt8) : Nat × Nat × Nat := vtk 10 l 0 0

theorem pow128 : ∀ {j : Nat}, j < 9 → 128 ^ (j + 1) ≤ 9223372036854775808
  | j, h => by
    have : 128 ^ (j + 1) ≤ 128 ^ 9 := Nat.pow_le_pow_right (by omega) (by omega)
    omega
theorem digit_lt {m j x : Nat} (hm : m < 128 ^ j) (hx : x < 128) : m + x * 128 ^ j < 128 ^ (j + 1) := by
  rw [Nat.pow_succ]
  have : x * 128 ^ j ≤ 127 * 128 ^ j := Nat.mul_le_mul_right _ (by omega)
  omega
theorem digit_u64 {m j x : Nat} (hm : m < 128 ^ j) (h9 : j < 9 ∨ j = 9 ∧ x ≤ 1) : U64 (m + x % 128 * 128 ^ j) := by
  unfold U64
  rcases h9 with h9 | ⟨rfl, h9⟩
  · have := digit_lt (x := x % 128) hm (by omega)
    have := pow128 h9
    omega
  · have : x % 128 * 128 ^ 9 ≤ 1 * 128 ^ 9 := Nat.mul_le_mul_right _ (by omega)
    omega
theorem shl_eq (x j : Nat) : ((x : Int) * 2 ^ (7 * j)) = ((x * 128 ^ j : Nat) : Int) := by
  have : (2:Nat) ^ (7 * j) = 128 ^ j := by rw [Nat.pow_mul]
  rw [Int.natCast_mul, ← this]; simp
theorem or_digit {m j x : Nat} (hm : m < 128 ^ j) : m ||| x * 128 ^ j = m + x * 128 ^ j := by
  have e : (128:Nat) ^ j = 2 ^ (7 * j) := by rw [Nat.pow_mul]
  rw [e] at hm ⊢
  rw [Nat.or_comm, nat_join (7*j) _ _ (by simp) hm, Nat.add_comm]
theorem take_step {m j x : Nat} (hm : m < 128 ^ j) (hx : x < 256) (h9 : j < 9 ∨ j = 9 ∧ x ≤ 1) :
    bits .or .u64 (m : Int) (IntKind.u64.wrap (IntKind.u64.wrap (bits .and .u8 (x : Int) 127) * 2 ^ (7 * j))) = ((m + x % 128 * 128 ^ j : Nat) : Int) := by
  have hu := digit_u64 hm h9
  have hu1 : U64 m := hu.le (by omega)
  have hu2 : U64 (x % 128 * 128 ^ j) := hu.le (by omega)
  have hu3 : U64 (x % 128) := by unfold U64; omega
  rw [and127 x hx, hu3.wrap, shl_eq, hu2.wrap, u64_or_nat _ _ hu1.lt hu2.lt, or_digit hm]

/-- the number that groups come to -/
def vval : List UInt8 → Nat
  | [] => 0
  | x :: r => x.toNat % 128 + 128 * vval r
theorem vval_append (l : List UInt8) (x : UInt8) : vval (l ++ [x]) = vval l + x.toNat % 128 * 128 ^ l.length := by
  induction l with
  | nil => simp [vval]
  | cons y r ih => simp only [List.cons_append, vval, ih, List.length_cons, Nat.pow_succ]; rw [Nat.mul_add, Nat.add_assoc]; congr 2; rw [Nat.mul_comm 128, Nat.mul_assoc]
theorem vval_lt (l : List UInt8) : vval l < 128 ^ l.length := by
  induction l with
  | nil => simp [vval]
  | cons y r ih => simp only [vval, List.length_cons, Nat.pow_succ]; omega
theorem vval_put (n : Nat) : vval (vput n) = n := by
  induction n using Nat.strongRecOn with
  | _ n ih =>
    by_cases h : n < 128
    · rw [vput_small h]; simp [vval]; omega
    · rw [vput_big h, vval, ih _ (by omega)]
      have : (UInt8.ofNat (n % 128 + 128)).toNat = n % 128 + 128 := by simp; omega
      rw [this]; omega
theorem vput_val : ∀ (l : List UInt8) (x : UInt8), (∀ y ∈ l, 128 ≤ y.toNat) → x.toNat < 128 → (l = [] ∨ x.toNat ≠ 0) → vput (vval (l ++ [x])) = l ++ [x]
  | [], x, _, hx, _ => by
    simp only [List.nil_append, vval]
    rw [vput_small (by omega)]
    simp [Nat.mod_eq_of_lt hx]
  | y :: r, x, hl, hx, h0 => by
    have h0' : x.toNat ≠ 0 := by rcases h0 with h | h; cases h; exact h
    have ih := vput_val r x (fun z hz => hl z (List.mem_cons_of_mem _ hz)) hx (.inr h0')
    have hy := hl y (List.mem_cons_self ..)
    have hpos : 1 ≤ vval (r ++ [x]) := by
      rw [vval_append]
      have : 1 ≤ x.toNat % 128 * 128 ^ r.length := Nat.mul_pos (by omega) (Nat.pow_pos (by omega))
      omega
    rw [List.cons_append, vval, vput_big (by omega)]
    have h1 : (y.toNat % 128 + 128 * vval (r ++ [x])) % 128 + 128 = y.toNat := by have := y.toNat_lt; omega
    have h2 : (y.toNat % 128 + 128 * vval (r ++ [x])) / 128 = vval (r ++ [x]) := by omega
    rw [h1, h2, ih]
    simp
theorem vsize_lt {n j : Nat} (h : n < 128 ^ j) (hj : 0 < j) : vsize n ≤ j := by
  obtain ⟨k, rfl⟩ : ∃ k, j = k + 1 := ⟨j - 1, by omega⟩
  exact vsize_le k n h

/-- the sum of the reference: it may pass 64 bits in the tenth byte alone -/
theorem ref_sum (v x j : Nat) (hv : v < 128 ^ j) : ∃ N, U64 N ∧ IntKind.u64.wrap ((v : Int) + IntKind.u64.wrap ((x : Int) % 128 * 2 ^ (7 * j))) = (N : Int) ∧
    ((j < 9 ∨ j = 9 ∧ x ≤ 1) → N = v + x % 128 * 128 ^ j) ∧ N % 18446744073709551616 = (v + x % 128 * 128 ^ j) % 18446744073709551616 := by
  refine ⟨(v + x % 128 * 128 ^ j) % 18446744073709551616, Nat.mod_lt _ (by omega), ?_, fun h => Nat.mod_eq_of_lt (digit_u64 hv h), by omega⟩
  have e : ((x : Int) % 128 * 2 ^ (7 * j)) = ((x % 128 * 128 ^ j : Nat) : Int) := by
    have := shl_eq (x % 128) j
    rw [← this]; simp
  rw [e]
  generalize x % 128 * 128 ^ j = y
  simp only [IntKind.wrap, IntKind.bits, IntKind.signed]
  simp
/-- what was put is what was taken: in the reference's words -/
theorem ref_same {l : List UInt8} {x : UInt8} {N : Nat} (h128 : ∀ y ∈ l, 128 ≤ y.toNat) (hx : x.toNat < 128) (hl : l.length ≤ 9) (hN : U64 N)
    (h1 : (l.length < 9 ∨ l.length = 9 ∧ x.toNat ≤ 1) → N = vval l + x.toNat % 128 * 128 ^ l.length)
    (h2 : N % 18446744073709551616 = (vval l + x.toNat % 128 * 128 ^ l.length) % 18446744073709551616) :
    vput N = l ++ [x] ↔ ¬ (0 < l.length ∧ x.toNat = 0) ∧ ¬ (l.length = 9 ∧ 1 < x.toNat) := by
  have hva := vval_append l x
  have hvl := vval_lt l
  constructor
  · intro h
    have hN2 : N = vval (l ++ [x]) := by rw [← h, vval_put]
    refine ⟨fun ⟨h0, hx0⟩ => ?_, fun ⟨h9, hx1⟩ => ?_⟩
    · rw [hx0] at hva
      have : N < 128 ^ l.length := by rw [hN2, hva]; omega
      have := vsize_lt this h0
      rw [← vput_len, h, List.length_append] at this
      simp at this
      omega
    · have := hN.lt
      rw [h9] at hva
      have : 2 * 128 ^ 9 ≤ x.toNat % 128 * 128 ^ 9 := Nat.mul_le_mul_right _ (by omega)
      omega
  · rintro ⟨h3, h4⟩
    have : N = vval (l ++ [x]) := by rw [hva]; exact h1 (by omega)
    rw [this]
    exact vput_val l x h128 hx (by
      rcases Nat.eq_zero_or_pos l.length with h | h
      · exact .inl (List.eq_nil_of_length_eq_zero h)
      · exact .inr fun hx0 => h3 ⟨h, hx0⟩)
end Go.Proofs.YtiildgoaiookhaaGreat

/- Tags of fields, in plain words. No program in sight. -/
namespace Go.Proofs.YtiildgoaiookhaaGreat
open Go.RowKit

/-- a field's number and kind that may be -/
def TagMay (num wire : Nat) : Prop := 1 ≤ num ∧ num ≤ 1000 ∧ (wire = 0 ∨ wire = 2)
instance (num wire : Nat) : Decidable (TagMay num wire) := by unfold TagMay; infer_instance
/-- the tag with which bytes begin: number, kind, size, an error's number -/
def ttake (l : List UInt8) : Nat × Nat × Nat × Nat :=
  if (vtake l).2.2 ≠ 0 then (0, 0, 0, (vtake l).2.2)
  else if TagMay ((vtake l).1 / 8) ((vtake l).1 % 8) then ((vtake l).1 / 8, (vtake l).1 % 8, (vtake l).2.1, 0) else (0, 0, 0, 6)
/-- how many bytes the field has with which bytes begin -/
def tskip (l : List UInt8) : Nat × Nat :=
  if (ttake l).2.2.2 ≠ 0 then (0, (ttake l).2.2.2)
  else
    let v := vtake (l.drop (ttake l).2.2.1)
    if v.2.2 ≠ 0 then (0, v.2.2)
    else if (ttake l).2.1 = 0 then ((ttake l).2.2.1 + v.2.1, 0)
    else if 16384 < v.1 then (0, 4)
    else if l.length < (ttake l).2.2.1 + v.2.1 + v.1 then (0, 2)
    else ((ttake l).2.2.1 + v.2.1 + v.1, 0)

theorem vtk_cases : ∀ (f : Nat) (l : List UInt8) (k m : Nat), f + k = 10 → m < 128 ^ k →
    (vtk f l k m = (0, 0, 2) ∧ l.length < f) ∨ vtk f l k m = (0, 0, 3) ∨
    ∃ n s, vtk f l k m = (n, s, 0) ∧ U64 n ∧ k < s ∧ s ≤ 10 ∧ s ≤ k + l.length
  | 0, _, _, _, _, _ => .inr (.inl rfl)
  | f + 1, [], k, m, _, _ => .inl ⟨rfl, by simp⟩
  | f + 1, x :: r, k, m, hk, hm => by
    rw [vtk]
    by_cases h1 : 0 < k ∧ x.toNat = 0
    · rw [if_pos h1]; exact .inr (.inl rfl)
    · rw [if_neg h1]
      by_cases h2 : k = 9 ∧ 1 < x.toNat
      · rw [if_pos h2]; exact .inr (.inl rfl)
      · rw [if_neg h2]
        by_cases h3 : x.toNat < 128
        · rw [if_pos h3]
          exact .inr (.inr ⟨_, _, rfl, digit_u64 hm (by omega), by omega, by omega, by simp⟩)
        · rw [if_neg h3]
          rcases vtk_cases f r (k + 1) (m + x.toNat % 128 * 128 ^ k) (by omega) (digit_lt hm (by omega)) with ⟨h, hl⟩ | h | ⟨n, s, h, hn, h4, h5, h6⟩
          · exact .inl ⟨h, by simp; omega⟩
          · exact .inr (.inl h)
          · exact .inr (.inr ⟨n, s, h, hn, by omega, h5, by simp; omega⟩)
theorem vtake_cases (l : List UInt8) : (vtake l = (0, 0, 2) ∧ l.length < 10) ∨ vtake l = (0, 0, 3) ∨ ∃ n s, vtake l = (n, s, 0) ∧ U64 n ∧ 0 < s ∧ s ≤ 10 ∧ s ≤ l.length := by
  have := vtk_cases 10 l 0 0 rfl (by omega)
  simpa [vtake] using this
theorem ttake_cases (l : List UInt8) : ttake l = (0, 0, 0, 2) ∨ ttake l = (0, 0, 0, 3) ∨ ttake l = (0, 0, 0, 6) ∨ ∃ num wire s, ttake l = (num, wire, s, 0) ∧ TagMay num wire ∧ 0 < s ∧ s ≤ 10 ∧ s ≤ l.length := by
  unfold ttake
  rcases vtake_cases l with ⟨h, _⟩ | h | ⟨n, s, h, hn, h1, h2, h3⟩
  · rw [h]; exact .inl rfl
  · rw [h]; exact .inr (.inl rfl)
  · rw [h]
    by_cases hm : TagMay (n / 8) (n % 8)
    · exact .inr (.inr (.inr ⟨n / 8, n % 8, s, by simp [hm], hm, h1, h2, h3⟩))
    · exact .inr (.inr (.inl (by simp [hm])))
end Go.Proofs.YtiildgoaiookhaaGreat

/- What was put is taken, and what is taken was put: numbers and tags, in plain words. -/
namespace Go.Proofs.YtiildgoaiookhaaGreat
open Go.RowKit

theorem pow10 : (128 : Nat) ^ 10 = 1180591620717411303424 := by decide
theorem pow9 : (128 : Nat) ^ 9 = 9223372036854775808 := by decide

theorem vtk_put : ∀ (f m k a : Nat) (L : List UInt8), f + k = 10 → U64 (a + m * 128 ^ k) → (0 < k → m ≠ 0) → vtk f (vput m ++ L) k a = (a + m * 128 ^ k, k + vsize m, 0)
  | 0, m, k, a, L, hk, hu, h0 => by
    exfalso
    have : k = 10 := by omega
    subst this
    have h1 := h0 (by omega)
    have := hu.lt
    have : 1 * 128 ^ 10 ≤ m * 128 ^ 10 := Nat.mul_le_mul_right _ (by omega)
    rw [pow10] at *
    omega
  | f + 1, m, k, a, L, hk, hu, h0 => by
    have hlt := hu.lt
    by_cases h : m < 128
    · rw [vput_small h, vsize_small h, List.singleton_append, vtk]
      have hx : (UInt8.ofNat m).toNat = m := by simp; omega
      rw [hx, if_neg (fun hh => h0 hh.1 hh.2), if_neg, if_pos h, Nat.mod_eq_of_lt h]
      rintro ⟨rfl, h2⟩
      have : 2 * 128 ^ 9 ≤ m * 128 ^ 9 := Nat.mul_le_mul_right _ (by omega)
      rw [pow9] at *
      omega
    · rw [vput_big h, vsize_big h, List.cons_append, vtk]
      have hx : (UInt8.ofNat (m % 128 + 128)).toNat = m % 128 + 128 := by simp; omega
      have hk9 : k ≠ 9 := by
        rintro rfl
        have : 128 * 128 ^ 9 ≤ m * 128 ^ 9 := Nat.mul_le_mul_right _ (by omega)
        rw [pow9] at *
        omega
      have e : a + m % 128 * 128 ^ k + m / 128 * 128 ^ (k + 1) = a + m * 128 ^ k := by
        rw [Nat.pow_succ, Nat.mul_comm (128 ^ k) 128, ← Nat.mul_assoc, Nat.add_assoc, ← Nat.add_mul]
        congr 2; omega
      rw [hx, if_neg (by omega), if_neg (by omega), if_neg (by omega), show (m % 128 + 128) % 128 = m % 128 by omega]
      rw [vtk_put f (m / 128) (k + 1) _ L (by omega) (by rw [e]; exact hu) (by omega), e]
      congr 2; omega

theorem vtake_put {N : Nat} (hN : U64 N) (L : List UInt8) : vtake (vput N ++ L) = (N, (vput N).length, 0) := by
  have := vtk_put 10 N 0 0 L rfl (by simpa using hN) (by omega)
  rw [vtake, this, vput_len]; simp

theorem vtk_sound : ∀ (f : Nat) (l : List UInt8) (k a N s : Nat), vtk f l k a = (N, s, 0) →
    ∃ pre x rest, l = pre ++ [x] ++ rest ∧ (∀ y ∈ pre, 128 ≤ y.toNat) ∧ x.toNat < 128 ∧ (k = 0 ∧ pre = [] ∨ x.toNat ≠ 0) ∧ N = a + vval (pre ++ [x]) * 128 ^ k ∧ s = k + pre.length + 1
  | 0, _, _, _, N, s, h => by simp [vtk] at h
  | f + 1, [], _, _, N, s, h => by simp [vtk] at h
  | f + 1, y :: r, k, a, N, s, h => by
    rw [vtk] at h
    by_cases h1 : 0 < k ∧ y.toNat = 0
    · rw [if_pos h1] at h; simp at h
    · rw [if_neg h1] at h
      by_cases h2 : k = 9 ∧ 1 < y.toNat
      · rw [if_pos h2] at h; simp at h
      · rw [if_neg h2] at h
        by_cases h3 : y.toNat < 128
        · rw [if_pos h3] at h
          simp only [Prod.mk.injEq, and_true] at h
          exact ⟨[], y, r, rfl, by simp, h3, (by rcases Nat.eq_zero_or_pos k with hk | hk; exact .inl ⟨hk, rfl⟩; exact .inr (fun h => h1 ⟨hk, h⟩)), by rw [← h.1]; simp [vval], by rw [← h.2]; simp⟩
        · rw [if_neg h3] at h
          obtain ⟨pre, x, rest, e, hp, hx, h0, hN, hs⟩ := vtk_sound f r (k + 1) _ N s h
          refine ⟨y :: pre, x, rest, by rw [e]; rfl, ?_, hx, ?_, ?_, by rw [hs]; simp; omega⟩
          · intro z hz
            rcases List.mem_cons.1 hz with rfl | hz
            · omega
            · exact hp z hz
          · rcases h0 with ⟨h0, _⟩ | h0
            · omega
            · exact .inr h0
          · rw [hN, List.cons_append, vval, Nat.pow_succ, Nat.add_assoc]
            congr 1
            rw [Nat.add_mul, Nat.mul_comm (128 ^ k) 128, ← Nat.mul_assoc, Nat.mul_comm (vval _) 128]

theorem vtake_sound {l : List UInt8} {N s : Nat} (h : vtake l = (N, s, 0)) : vput N = l.take s ∧ s ≤ l.length ∧ s = vsize N := by
  obtain ⟨pre, x, rest, e, hp, hx, h0, hN, hs⟩ := vtk_sound 10 l 0 0 N s h
  have hv := vput_val pre x hp hx (by rcases h0 with h0 | h0; exact .inl h0.2; exact .inr h0)
  have hN' : N = vval (pre ++ [x]) := by rw [hN]; simp
  have ht : l.take s = pre ++ [x] := by rw [e, hs]; rw [List.take_left' (by simp)]
  refine ⟨by rw [hN', hv, ht], by rw [e, hs]; simp, ?_⟩
  rw [← vput_len, hN', hv, hs]; simp

theorem tag_u64 {num wire : Nat} (h : TagMay num wire) : U64 (8 * num + wire) := by
  obtain ⟨_, _, _⟩ := h; unfold U64; omega
theorem tag_len {num wire : Nat} (h : TagMay num wire) : (vput (8 * num + wire)).length = if num < 16 then 1 else 2 := by
  obtain ⟨_, _, _⟩ := h
  rw [vput_len]
  split
  · exact vsize_small (by omega)
  · rw [vsize_big (by omega), vsize_small (by omega)]
theorem ttake_put {num wire : Nat} (h : TagMay num wire) (L : List UInt8) : ttake (vput (8 * num + wire) ++ L) = (num, wire, (vput (8 * num + wire)).length, 0) := by
  have h' := h
  obtain ⟨h1, h2, h3⟩ := h
  unfold ttake
  rw [vtake_put (tag_u64 h')]
  rw [if_neg (by simp), show (8 * num + wire) / 8 = num by omega, show (8 * num + wire) % 8 = wire by omega, if_pos h']
theorem ttake_sound {l : List UInt8} {num wire s : Nat} (h : ttake l = (num, wire, s, 0)) : TagMay num wire ∧ vput (8 * num + wire) = l.take s ∧ s ≤ l.length ∧ s = (vput (8 * num + wire)).length := by
  unfold ttake at h
  rcases vtake_cases l with ⟨h1, _⟩ | h1 | ⟨N, s', h1, hN, _⟩
  · rw [h1] at h; simp at h
  · rw [h1] at h; simp at h
  · obtain ⟨hv, hs, hz⟩ := vtake_sound h1
    rw [h1] at h
    by_cases hm : TagMay (N / 8) (N % 8)
    · rw [if_neg (by simp), if_pos hm] at h
      simp only [Prod.mk.injEq, and_true] at h
      obtain ⟨rfl, rfl, rfl⟩ := h
      rw [show 8 * (N / 8) + N % 8 = N by omega]
      exact ⟨hm, hv, hs, by rw [vput_len]; exact hz⟩
    · rw [if_neg (by simp), if_neg hm] at h; simp at h
end Go.Proofs.YtiildgoaiookhaaGreat

/- Parts of slices, as one step of a walk. No program in sight. -/
namespace Go.Proofs.YtiildgoaiookhaaGreat
open Go.RowKit

theorem elem_of {P : Program} {t e : TypeId} (h : P.underlying t = some (.slice e)) : P.elem t = e := by
  simp [Program.elem, h]

theorem run_slice_at {P : Program} {t e : TypeId} {size bytes : Nat} (T : SliceT P t e size bytes) (A : Option Addr) (n c lo : Nat) (hlo : lo ≤ n) (x : Int) (hx : x = lo) (w : World) :
    (Instr.slice t (.slice A n c) (some (.int .i64 x)) none none).run P w = .ok (.slice (if c = lo then A else A.map (·.add (lo * size))) (n - lo) (c - lo)) w := by
  obtain ⟨i, z, hi, hz, hz1, hz2, hz3⟩ := T.info
  subst hx
  have := run_slice_l (P := P) w t A n c (by rw [elem_of T.ht]; exact T.ht) .i64 (lo : Int) (by omega) (by omega)
  rw [this, elem_of T.ht]
  simp [sizeOf, typeInfo, hi, hz1, sliced, Result.andThen]

/-- x[lo:] -/
theorem cut_from {P : Program} {t e : TypeId} {size bytes : Nat} (T : SliceT P t e size bytes) (A : Option Addr) {n c lo : Nat} (hlo : lo ≤ n) (hnc : n ≤ c) (x : Int) (hx : x = lo) :
    ∃ A' c', n - lo ≤ c' ∧ (∀ w, (Instr.slice t (.slice A n c) (some (.int .i64 x)) none none).run P w = .ok (.slice A' (n - lo) c') w) ∧ ∀ w xs, Rd w A n size xs → Rd w A' (n - lo) size (xs.drop (lo * size)) :=
  ⟨_, _, by omega, run_slice_at T A n c lo hlo x hx, fun w xs h => by
    have := h.part (lo := lo) (m := n - lo) (by omega) (if c = lo then A else A.map (·.add (lo * size))) (fun hp b off e => by
      rw [if_neg (by omega), e]; simp [plain_add])
    rwa [List.take_of_length_le (by rw [List.length_drop, h.1, Nat.sub_mul]; omega)] at this⟩

/-- b[lo:] of bytes -/
theorem cut_bytes {P : Program} {t e : TypeId} (T : SliceT P t e 1 1) (A : Option Addr) {n c lo : Nat} (hlo : lo ≤ n) (hnc : n ≤ c) (x : Int) (hx : x = lo) :
    ∃ A' c', n - lo ≤ c' ∧ (∀ w, (Instr.slice t (.slice A n c) (some (.int .i64 x)) none none).run P w = .ok (.slice A' (n - lo) c') w) ∧ ∀ w l, Bs w A n l → Bs w A' (n - lo) (l.drop lo) := by
  obtain ⟨A', c', h1, h2, h3⟩ := cut_from T A hlo hnc x hx
  exact ⟨A', c', h1, h2, fun w l h => by have := h3 w _ h; simpa [Bs, List.map_drop] using this⟩

theorem run_slice_at2 {P : Program} {t e : TypeId} {size bytes : Nat} (T : SliceT P t e size bytes) (A : Option Addr) (n c lo hi : Nat) (hlo : lo ≤ hi) (hhi : hi ≤ c) (x y : Int) (hx : x = lo) (hy : y = hi) (w : World) :
    (Instr.slice t (.slice A n c) (some (.int .i64 x)) (some (.int .i64 y)) none).run P w = .ok (.slice (if c = lo then A else A.map (·.add (lo * size))) (hi - lo) (c - lo)) w := by
  obtain ⟨i, z, hi', hz, hz1, hz2, hz3⟩ := T.info
  subst hx hy
  have := run_slice_lh (P := P) w t A n c (by rw [elem_of T.ht]; exact T.ht) .i64 .i64 (lo : Int) (hi : Int) (by omega) (by omega) (by omega)
  rw [this, elem_of T.ht]
  simp [sizeOf, typeInfo, hi', hz1, sliced, Result.andThen]

/-- b[lo:hi] of bytes -/
theorem cut_bytes2 {P : Program} {t e : TypeId} (T : SliceT P t e 1 1) (A : Option Addr) {n c lo hi : Nat} (hlo : lo ≤ hi) (hhi : hi ≤ n) (hnc : n ≤ c) (x y : Int) (hx : x = lo) (hy : y = hi) :
    ∃ A' c', hi - lo ≤ c' ∧ (∀ w, (Instr.slice t (.slice A n c) (some (.int .i64 x)) (some (.int .i64 y)) none).run P w = .ok (.slice A' (hi - lo) c') w) ∧ ∀ w l, Bs w A n l → Bs w A' (hi - lo) ((l.drop lo).take (hi - lo)) :=
  ⟨_, _, by omega, run_slice_at2 T A n c lo hi hlo (by omega) x y hx hy, fun w l h => h.part (by omega) _ (fun hp b off e => by
    rw [if_neg (by omega), e]; simp [plain_add])⟩
end Go.Proofs.YtiildgoaiookhaaGreat

/- An append as one step of a region that draws its order. No program in sight. -/
namespace Go.Proofs.YtiildgoaiookhaaGreat
open Go.RowKit

theorem step_app {P : Program} {t e : TypeId} {size bytes : Nat} (T : SliceT P t e size bytes) (hsz : 0 < size) (w : World) {ops : Array Oper} {o : Oper} {a : Act} {K : Act → World → Prop} {Q : Exit → Act → World → Prop} {E : Prop}
    (hgd : o.guard = none) {s x : Operand} (ho : o.op = .call { callee := .builtin .append, args := #[s, x], argTypes := #[t, t] })
    {B : Nat} {v : Value} {n : Nat} {xs : List Value} (hs : a.eval s = v) (hown : w.ownsRow B e size v n xs)
    {A : Option Addr} {m c : Nat} {news : List Value} (hx : a.eval x = .slice A m c) (hr : Rd w A m size news) (h1 : ∀ u ∈ news, u.oneCell' = true)
    (h63 : n + m ≤ maxLen) (hbytes : (n + m) * bytes ≤ 140737488355328) (hB : B ≤ w.heap.size)
    (h : ∀ v' w', w'.ownsRow B e size v' (n + m) (xs ++ news) → w.grownBy w' v.ownBlock → (v'.ownBlock = v.ownBlock ∨ v'.ownBlock = some w.heap.size) → K (a.put o.dst v') w') :
    if Region.wanted o (yielded ops a.tmps) = true then Oper.wp P o a w K Q else E := by
  have hw : Region.wanted o (yielded ops a.tmps) = true := by simp [Region.wanted, hgd]
  rw [if_pos hw]
  obtain ⟨i, z, hi, hz, hz1, hz2, hz3⟩ := T.info
  exact wp_append_rd w s x t ho B e i z size bytes T.ht hi hz hz1 hz2 hz3 hsz v n xs hs hown A m c news hx hr h1 h63 hbytes hB h
end Go.Proofs.YtiildgoaiookhaaGreat

/- Fields that were laid down are skipped; cut, they go on. No program in sight. -/
namespace Go.Proofs.YtiildgoaiookhaaGreat
open Go.RowKit

theorem vtk_cut : ∀ (f m k a j : Nat), f + k = 10 → U64 (a + m * 128 ^ k) → (0 < k → m ≠ 0) → j < vsize m → vtk f ((vput m).take j) k a = (0, 0, 2)
  | 0, m, k, a, j, hk, hu, h0, hj => by
    exfalso
    have : k = 10 := by omega
    subst this
    have h1 := h0 (by omega)
    have := hu.lt
    have : 1 * 128 ^ 10 ≤ m * 128 ^ 10 := Nat.mul_le_mul_right _ (by omega)
    rw [pow10] at *
    omega
  | f + 1, m, k, a, 0, hk, hu, h0, hj => by rw [List.take_zero, vtk]
  | f + 1, m, k, a, j + 1, hk, hu, h0, hj => by
    have hlt := hu.lt
    by_cases h : m < 128
    · rw [vsize_small h] at hj; omega
    · rw [vsize_big h] at hj
      rw [vput_big h, List.take_succ_cons, vtk]
      have hx : (UInt8.ofNat (m % 128 + 128)).toNat = m % 128 + 128 := by simp; omega
      have hk9 : k ≠ 9 := by
        rintro rfl
        have : 128 * 128 ^ 9 ≤ m * 128 ^ 9 := Nat.mul_le_mul_right _ (by omega)
        rw [pow9] at *
        omega
      have e : a + m % 128 * 128 ^ k + m / 128 * 128 ^ (k + 1) = a + m * 128 ^ k := by
        rw [Nat.pow_succ, Nat.mul_comm (128 ^ k) 128, ← Nat.mul_assoc, Nat.add_assoc, ← Nat.add_mul]
        congr 2; omega
      rw [hx, if_neg (by omega), if_neg (by omega), if_neg (by omega), show (m % 128 + 128) % 128 = m % 128 by omega]
      exact vtk_cut f (m / 128) (k + 1) _ j (by omega) (by rw [e]; exact hu) (by omega) (by omega)
theorem vtake_cut {N : Nat} (hN : U64 N) {j : Nat} (hj : j < (vput N).length) : vtake ((vput N).take j) = (0, 0, 2) := by
  rw [vput_len] at hj
  exact vtk_cut 10 N 0 0 j rfl (by simpa using hN) (by omega) hj
theorem ttake_cut {num wire : Nat} (h : TagMay num wire) {j : Nat} (hj : j < (vput (8 * num + wire)).length) : ttake ((vput (8 * num + wire)).take j) = (0, 0, 0, 2) := by
  unfold ttake
  rw [vtake_cut (tag_u64 h) hj]
  rfl

/-- the bytes of a field of a number, of bytes -/
def fldN (k n : Nat) : List UInt8 := vput (8 * k + 0) ++ vput n
def fldB (k : Nat) (b : List UInt8) : List UInt8 := vput (8 * k + 2) ++ vput b.length ++ b
theorem may0 {k : Nat} (h1 : 1 ≤ k) (h2 : k ≤ 1000) : TagMay k 0 := ⟨h1, h2, .inl rfl⟩
theorem may2 {k : Nat} (h1 : 1 ≤ k) (h2 : k ≤ 1000) : TagMay k 2 := ⟨h1, h2, .inr rfl⟩

theorem skip_N {k n : Nat} (h1 : 1 ≤ k) (h2 : k ≤ 1000) (hn : U64 n) (L : List UInt8) : tskip (fldN k n ++ L) = ((fldN k n).length, 0) := by
  unfold tskip fldN
  rw [List.append_assoc, ttake_put (may0 h1 h2) (vput n ++ L), List.drop_left, vtake_put hn]
  simp
theorem skip_B {k : Nat} {b : List UInt8} (h1 : 1 ≤ k) (h2 : k ≤ 1000) (hb : b.length ≤ 1000) (L : List UInt8) : tskip (fldB k b ++ L) = ((fldB k b).length, 0) := by
  have hu : U64 b.length := by unfold U64; omega
  unfold tskip fldB
  rw [List.append_assoc, List.append_assoc, ttake_put (may2 h1 h2) (vput b.length ++ (b ++ L)), List.drop_left, vtake_put hu]
  dsimp only
  rw [if_neg (by simp), if_neg (by simp), if_neg (by omega), if_neg (by omega), if_neg (by simp; omega)]
  simp; omega
theorem cut_N {k n : Nat} (h1 : 1 ≤ k) (h2 : k ≤ 1000) (hn : U64 n) {t : Nat} (ht : t < (fldN k n).length) : tskip ((fldN k n).take t) = (0, 2) := by
  unfold fldN at ht ⊢
  rw [List.length_append] at ht
  unfold tskip
  by_cases hc : t < (vput (8 * k + 0)).length
  · rw [List.take_append_of_le_length (by omega), ttake_cut (may0 h1 h2) hc]
    rfl
  · rw [List.take_append, List.take_of_length_le (by omega), ttake_put (may0 h1 h2), List.drop_left, vtake_cut hn (by omega)]
    rfl
theorem cut_B {k : Nat} {b : List UInt8} (h1 : 1 ≤ k) (h2 : k ≤ 1000) (hb : b.length ≤ 1000) {t : Nat} (ht : t < (fldB k b).length) : tskip ((fldB k b).take t) = (0, 2) := by
  have hu : U64 b.length := by unfold U64; omega
  unfold fldB at ht ⊢
  rw [List.append_assoc] at ht ⊢
  rw [List.length_append, List.length_append] at ht
  unfold tskip
  by_cases hc : t < (vput (8 * k + 2)).length
  · rw [List.take_append_of_le_length (by omega), ttake_cut (may2 h1 h2) hc]
    rfl
  · rw [List.take_append, List.take_of_length_le (by omega), ttake_put (may2 h1 h2), List.drop_left]
    by_cases hc2 : t - (vput (8 * k + 2)).length < (vput b.length).length
    · rw [List.take_append_of_le_length (by omega), vtake_cut hu hc2]
      rfl
    · rw [List.take_append, List.take_of_length_le (show (vput b.length).length ≤ _ by omega), vtake_put hu]
      dsimp only
      rw [if_neg (by simp), if_neg (by simp), if_neg (by omega), if_neg (by omega), if_pos]
      simp only [List.length_append, List.length_take]
      omega
theorem fldN_len {k n : Nat} (h1 : 1 ≤ k) (h2 : k ≤ 1000) (hn : U64 n) : (fldN k n).length ≤ 12 := by
  unfold fldN
  have a1 : (vput (8 * k + 0)).length ≤ 2 := by rw [tag_len (may0 h1 h2)]; split <;> omega
  have a2 : (vput n).length ≤ 10 := by rw [vput_len]; exact hn.size
  rw [List.length_append]; omega
theorem fldB_len {k : Nat} {b : List UInt8} (h1 : 1 ≤ k) (h2 : k ≤ 1000) (hb : b.length ≤ 1000) : (fldB k b).length ≤ 1012 := by
  unfold fldB
  have hu : U64 b.length := by unfold U64; omega
  have a1 : (vput (8 * k + 2)).length ≤ 2 := by rw [tag_len (may2 h1 h2)]; split <;> omega
  have a2 : (vput b.length).length ≤ 10 := by rw [vput_len]; exact hu.size
  rw [List.length_append, List.length_append]; omega
end Go.Proofs.YtiildgoaiookhaaGreat

/- A row of the call's own that was made ahead of others: what its growth leaves alone. No program in sight. -/
namespace Go.Proofs.YtiildgoaiookhaaGreat
open Go.RowKit

theorem grownBy_ext {w w' : World} (h : Ext w w') (row : Option Nat) : w.grownBy w' row :=
  ⟨h.os, h.tape, h.output, h.size, fun k hk _ => h.block k hk⟩
/-- from w1 on nothing old but block g0 has turned; v is nil, lies in g0, or is new -/
structure Grow (g0 : Nat) (w1 w : World) (v : Value) : Prop where
  by_ : w1.grownBy w (some g0)
  own : ∀ k, v.ownBlock = some k → k = g0 ∨ w1.heap.size ≤ k
theorem Grow.start (g0 : Nat) (w1 : World) {v : Value} (h : ∀ k, v.ownBlock = some k → k = g0 ∨ w1.heap.size ≤ k) : Grow g0 w1 w1 v := ⟨World.grownBy.refl w1 _, h⟩
theorem Grow.ext {g0 : Nat} {w1 w w' : World} {v : Value} (h : Grow g0 w1 w v) (he : Ext w w') : Grow g0 w1 w' v :=
  ⟨⟨he.os.trans h.by_.os, he.tape.trans h.by_.tape, he.output.trans h.by_.output, Nat.le_trans h.by_.size he.size, fun k hk hne => (he.block k (Nat.lt_of_lt_of_le hk h.by_.size)).trans (h.by_.block k hk hne)⟩, h.own⟩
theorem Grow.app {g0 : Nat} {w1 w w' : World} {v v' : Value} (h : Grow g0 w1 w v) (hg : w.grownBy w' v.ownBlock) (hat : v'.ownBlock = v.ownBlock ∨ v'.ownBlock = some w.heap.size) : Grow g0 w1 w' v' := by
  refine ⟨⟨hg.os.trans h.by_.os, hg.tape.trans h.by_.tape, hg.output.trans h.by_.output, Nat.le_trans h.by_.size hg.size, fun k hk hne => ?_⟩, fun k hk => ?_⟩
  · refine (hg.block k (Nat.lt_of_lt_of_le hk h.by_.size) ?_).trans (h.by_.block k hk hne)
    intro e
    rcases h.own k e.symm with rfl | h2
    · exact hne rfl
    · omega
  · rcases hat with e | e
    · exact h.own k (e ▸ hk)
    · rw [hk] at e
      injection e with e
      have := h.by_.size
      exact .inr (by omega)
theorem Grow.cell {g0 : Nat} {w1 w : World} {v : Value} (h : Grow g0 w1 w v) {p : Addr} {u : Value} (hc : w1.cell? p = some u) (hp : p.block ≠ g0) : w.cell? p = some u :=
  (World.cell?_of_block (h.by_.block p.block (World.block_lt_of_cell? w1 p hc) (by intro e; injection e with e; exact hp e))).trans hc
theorem Grow.rd {g0 : Nat} {w1 w : World} {v : Value} (h : Grow g0 w1 w v) {A : Option Addr} {n size : Nat} {xs : List Value} (hr : Rd w1 A n size xs) (hb : ∀ b off, A = some ⟨b, off, none⟩ → b ≠ g0) : Rd w A n size xs :=
  ⟨hr.1, fun hn => by
    obtain ⟨b, off, e, hlt, hc⟩ := hr.2 hn
    exact ⟨b, off, e, Nat.lt_of_lt_of_le hlt h.by_.size, fun j u hu => h.cell (hc j u hu) (hb b off e)⟩⟩
/-- all that was there ahead of g0 is as it was -/
theorem Grow.below {g0 : Nat} {w0 w1 w : World} {v : Value} (h : Grow g0 w1 w v) (hx : Ext w0 w1) (hg : w0.heap.size ≤ g0) : Ext w0 w :=
  ⟨h.by_.os.trans hx.os, h.by_.tape.trans hx.tape, h.by_.output.trans hx.output, Nat.le_trans hx.size h.by_.size, fun k hk => (h.by_.block k (Nat.lt_of_lt_of_le hk hx.size) (by intro e; injection e with e; omega)).trans (hx.block k hk)⟩
theorem own_lt {w : World} {base : Nat} {e : TypeId} {size n c b off : Nat} {xs : List Value} (h : w.ownsRow base e size (.slice (some ⟨b, off, none⟩) n c) n xs) : base ≤ b := by
  rcases h.2 with ⟨hv, _⟩ | ⟨g, cap, cur, hv, hb, _⟩
  · cases hv
  · injection hv with hv; injection hv with hv; injection hv with hv; omega
end Go.Proofs.YtiildgoaiookhaaGreat
