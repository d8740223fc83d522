/- Step and Steps at any records that may be done. (Printed by wip/tools/spsteps.py.) -/
import Derived.Test.YtcdnjhcddbkciaaSpN
import Derived.Test.YtcdnjhcddbkciaaSpO
import Derived.Test.YtcdnjhcddbkciaaElL
import Derived.Test.YtcdnjhcddbkciaaElF
import Derived.Test.YtcdnjhcddbkciaaMkA
namespace Go.Proofs.Ytcdnjhcddbkciaa
open Go.RowKit

theorem own_bd {w : World} {base : Nat} {e : TypeId} {size n c : Nat} {A : Option Addr} {xs : List Value} (h : w.ownsRow base e size (.slice A n c) n xs) : n ≤ c ∧ c ≤ maxLen := by
  rcases h.2 with ⟨hv, h0⟩ | ⟨g, cap, cur, hv, hb, hg, hc, hm, _⟩
  · injection hv with _ _ hc; subst hc; exact ⟨by omega, by unfold maxLen; omega⟩
  · injection hv with _ _ hc'; subst hc'; exact ⟨hc, hm⟩
/-- an entry whose bytes are the call's own -/
def OwnEv (w : World) (B : Nat) (y : EV) : Prop := w.ownsRow B 5 1 (.slice y.A y.len y.cap) y.len (y.b.map bv) ∧ I64 y.term
theorem OwnEv.ok {w : World} {B : Nat} {y : EV} (h : OwnEv w B y) : y.Ok w := ⟨Bs.of_own h.1, (own_bd h.1).1, (own_bd h.1).2, h.2⟩
theorem OwnEv.ext {w w' : World} {B : Nat} {y : EV} (h : OwnEv w B y) (he : Ext w w') : OwnEv w' B y := ⟨own_ext h.1 he, h.2⟩
theorem OwnEv.to {w : World} {B B' : Nat} {y : EV} (h : OwnEv w B y) (hB : B' ≤ B) : OwnEv w B' y := ⟨own_base h.1 hB, h.2⟩
theorem OwnEv.set {w : World} {B : Nat} {y : EV} (h : OwnEv w B y) {p : Addr} (hp : p.block < B) (u : Value) : OwnEv (w.setCell p u) B y := ⟨own_set h.1 hp u, h.2⟩
theorem OwnEv.set4 {w : World} {B g : Nat} {y : EV} (h : OwnEv w B y) (hp : g < B) (a b c d : Value) : OwnEv ((((w.setCell ⟨g, 0, none⟩ a).setCell ⟨g, 1, none⟩ b).setCell ⟨g, 2, none⟩ c).setCell ⟨g, 3, none⟩ d) B y :=
  (((h.set (p := ⟨g, 0, none⟩) hp a).set (p := ⟨g, 1, none⟩) hp b).set (p := ⟨g, 2, none⟩) hp c).set (p := ⟨g, 3, none⟩) hp d
/-- a log: the one that came in, or the call's own, of entries that came in or are the call's own -/
structure LogI (A0 : Option Addr) (n0 c0 : Nat) (l0 : List EV) (wr : World) (B : Nat) (A : Option Addr) (n c : Nat) (l : List EV) : Prop where
  row : (A = A0 ∧ n = n0 ∧ c = c0 ∧ l = l0) ∨ wr.ownsRow B 36 2 (.slice A n c) n (logOf l)
  es : ∀ y ∈ l, y ∈ l0 ∨ OwnEv wr B y
section
variable {A0 : Option Addr} {n0 c0 : Nat} {l0 : List EV}
theorem LogI.ext {wr W : World} {B : Nat} {A : Option Addr} {n c : Nat} {l : List EV} (h : LogI A0 n0 c0 l0 wr B A n c l) (he : Ext wr W) : LogI A0 n0 c0 l0 W B A n c l :=
  ⟨h.row.imp id (fun k => own_ext k he), fun y hy => (h.es y hy).imp id (fun k => k.ext he)⟩
theorem LogI.to {wr : World} {B B' : Nat} {A : Option Addr} {n c : Nat} {l : List EV} (h : LogI A0 n0 c0 l0 wr B A n c l) (hB : B' ≤ B) : LogI A0 n0 c0 l0 wr B' A n c l :=
  ⟨h.row.imp id (fun k => own_base k hB), fun y hy => (h.es y hy).imp id (fun k => k.to hB)⟩
theorem LogI.set {wr : World} {B : Nat} {A : Option Addr} {n c : Nat} {l : List EV} (h : LogI A0 n0 c0 l0 wr B A n c l) {p : Addr} (hp : p.block < B) (u : Value) : LogI A0 n0 c0 l0 (wr.setCell p u) B A n c l :=
  ⟨h.row.imp id (fun k => own_set k hp u), fun y hy => (h.es y hy).imp id (fun k => k.set hp u)⟩
theorem LogI.set4 {wr : World} {B g : Nat} {A : Option Addr} {n c : Nat} {l : List EV} (h : LogI A0 n0 c0 l0 wr B A n c l) (hp : g < B) (x y z u : Value) : LogI A0 n0 c0 l0 ((((wr.setCell ⟨g, 0, none⟩ x).setCell ⟨g, 1, none⟩ y).setCell ⟨g, 2, none⟩ z).setCell ⟨g, 3, none⟩ u) B A n c l :=
  (((h.set (p := ⟨g, 0, none⟩) hp x).set (p := ⟨g, 1, none⟩) hp y).set (p := ⟨g, 2, none⟩) hp z).set (p := ⟨g, 3, none⟩) hp u
theorem LogI.all {w wr : World} {B : Nat} {A : Option Addr} {n c : Nat} {l : List EV} (h : LogI A0 n0 c0 l0 wr B A n c l) (hs : Es w A0 n0 l0) (hle : n0 ≤ c0) (hcm : c0 ≤ maxLen) (hx : Ext w wr) : Es wr A n l ∧ n ≤ c ∧ c ≤ maxLen := by
  have he : ∀ y ∈ l, y.Ok wr := fun y hy => by
    rcases h.es y hy with k | k
    · exact (hs.ok y k).ext hx
    · exact k.ok
  rcases h.row with ⟨rfl, rfl, rfl, rfl⟩ | k
  · exact ⟨hs.ext hx, hle, hcm⟩
  · exact ⟨Es.of_own k he, (own_bd k).1, (own_bd k).2⟩
theorem LogI.masked_ {w wr : World} {F : Nat → Bool} {B : Nat} {A : Option Addr} {n c : Nat} {l : List EV} (h : LogI A0 n0 c0 l0 wr B A n c l) (hs : Es (mask F w) A0 n0 l0) (hx : Ext w wr) (hF : ∀ k, F k = true → k < B) : Es (mask F wr) A n l := by
  have hb : ∀ {e : TypeId} {size n : Nat} {v : Value} {xs : List Value}, wr.ownsRow B e size v n xs → ∀ k, v.ownBlock = some k → F k = false := fun ho k hk => by
    have := (ho.lt k hk).1
    cases e : F k with
    | false => rfl
    | true => have := hF k e; omega
  have he : ∀ y ∈ l, y.Ok (mask F wr) := fun y hy => by
    rcases h.es y hy with k | k
    · exact (hs.ok y k).ext hx.masks
    · exact OwnEv.ok (B := B) ⟨own_mask k.1 (hb k.1), k.2⟩
  rcases h.row with ⟨rfl, rfl, rfl, rfl⟩ | k
  · exact hs.ext hx.masks
  · exact Es.of_own (own_mask k (hb k)) he
theorem LogI.step {wr W : World} {B b : Nat} {A A' : Option Addr} {n c n' c' : Nat} {l l' : List EV} (h : LogI A0 n0 c0 l0 wr B A n c l) (heW : Ext wr W) (hb : B ≤ b) (hown : W.ownsRow b 36 2 (.slice A' n' c') n' (logOf l')) (hmem : ∀ y ∈ l', y ∈ l ∨ OwnEv W b y) : LogI A0 n0 c0 l0 W B A' n' c' l' :=
  ⟨.inr (own_base hown hb), fun y hy => (hmem y hy).elim (fun k => (h.es y k).imp id (fun q => q.ext heW)) (fun k => .inr (k.to hb))⟩
end
theorem ref15_Step_R (floor term vote : Int) (A : Option Addr) (n c : Nat) (l : List EV) (r : RV) (s' : SP) (h : StepR ⟨floor, term, vote, l.map EV.p⟩ r s') (w : World) (hs : Es w A n l) (hn : n ≤ 1000) (hr : r.Ok w) :
    Calls Try.prog 49 #[.agg #[.int .i64 floor, .int .i64 term, .int .i64 vote, .slice A n c], .agg #[.int .i64 r.kind, .int .i64 r.a, .int .i64 r.b, .slice r.A r.len r.cap]] w fun e w' =>
      ∃ (A' : Option Addr) (n' c' : Nat) (l' : List EV), e = .returned (.tuple #[.agg #[.int .i64 s'.floor, .int .i64 s'.term, .int .i64 s'.vote, .slice A' n' c'], .int .i64 0]) ∧
        w'.ownsRow w.heap.size 36 2 (.slice A' n' c') n' (logOf l') ∧ (∀ y ∈ l', y ∈ l ∨ OwnEv w' w.heap.size y) ∧ l'.map EV.p = s'.l ∧ n' ≤ max n 64 ∧ Ext w w' := by
  have hlen := hs.len
  generalize hP : (⟨floor, term, vote, l.map EV.p⟩ : SP) = P at h
  cases h with
  | vote t who ht hw hgo =>
    subst hP
    refine (ref15_Step_vote floor term vote A n c l t who w hs hn ht hw hgo).mono ?_
    rintro e w' ⟨v, rfl, hown, he⟩
    obtain ⟨A', c', rfl, _⟩ := own_form hown
    exact ⟨A', n, c', l, rfl, hown, fun y hy => .inl hy, rfl, by omega, he⟩
  | entry n0 u X len cap x hn0 h64 hu hl =>
    subst hP
    dsimp only at hn0
    rw [List.length_map, hlen] at hn0
    subst hn0
    refine (ref15_Step_entry floor term vote A n0 c l u X len cap x w hs hn (by omega) hu hr.bs hl).mono ?_
    rintro e w' ⟨A', c', X', q', rfl, h1, h2, he⟩
    refine ⟨A', n0 + 1, c', l ++ [⟨u, X', len, q', x⟩], rfl, h1, fun y hy => ?_, by simp [EV.p], by omega, he⟩
    rcases List.mem_append.1 hy with hy | hy
    · exact .inl hy
    · simp only [List.mem_singleton] at hy
      subst hy
      exact .inr ⟨h2, (⟨by omega, by omega⟩ : I64 (u : Int))⟩
  | cut t h1 h2 h3 =>
    subst hP
    dsimp only at h3
    rw [List.length_map, hlen] at h3
    refine (ref15_Step_cut floor term vote A n c l t w hs hn h1 h2 h3).mono ?_
    rintro e w' ⟨v, rfl, hown, he⟩
    obtain ⟨A', c', rfl, _⟩ := own_form hown
    exact ⟨A', t - 1, c', l.take (t - 1), rfl, hown, fun y hy => .inl (List.mem_of_mem_take hy), by rw [List.map_take], by omega, he⟩

def StepsL (s' : SP) (A0 : Option Addr) (n0 c0 : Nat) (l0 : List EV) (w : World) (e : Ending) (w' : World) : Prop :=
  ∃ (A' : Option Addr) (n' c' : Nat) (l' : List EV), e = .returned (.tuple #[.agg #[.int .i64 s'.floor, .int .i64 s'.term, .int .i64 s'.vote, .slice A' n' c'], .int .i64 0]) ∧ Es w' A' n' l' ∧ n' ≤ c' ∧ c' ≤ maxLen ∧ l'.map EV.p = s'.l ∧ n' ≤ max n0 64 ∧ Ext w w' ∧ LogI A0 n0 c0 l0 w' w.heap.size A' n' c' l'
set_option maxRecDepth 100000 in
set_option maxHeartbeats 3200000 in
theorem ref18_Steps_L (floor term vote : Int) (A0 : Option Addr) (n0 c0 : Nat) (l0 : List EV) (R : Option Addr) (m q : Nat) (rs : List RV) (s' : SP) (h : RunR ⟨floor, term, vote, l0.map EV.p⟩ rs s') (w : World) (hs : Es w A0 n0 l0) (hle : n0 ≤ c0) (hcm : c0 ≤ maxLen) (hn : n0 ≤ 1000) (hR : Rs w R m rs) (hm : m ≤ 1000) :
    Calls Try.prog 40 #[.agg #[.int .i64 floor, .int .i64 term, .int .i64 vote, .slice A0 n0 c0], .slice R m q] w (StepsL s' A0 n0 c0 l0 w) := by
  have hrl := hR.len
  have hB0 : Blk ((w.alloc (.cells #[.int .i64 floor, .int .i64 term, .int .i64 vote, .slice A0 n0 c0] 45)).alloc (.cells #[.int .i64 0, .int .i64 0, .int .i64 0, .slice none 0 0] 45)) w.heap.size 45 [.int .i64 floor, .int .i64 term, .int .i64 vote, .slice A0 n0 c0] := (Blk.new w _ [.int .i64 floor, .int .i64 term, .int .i64 vote, .slice A0 n0 c0]).alloc _
  have hB1 : Blk ((w.alloc (.cells #[.int .i64 floor, .int .i64 term, .int .i64 vote, .slice A0 n0 c0] 45)).alloc (.cells #[.int .i64 0, .int .i64 0, .int .i64 0, .slice none 0 0] 45)) (w.heap.size + 1) 45 [.int .i64 0, .int .i64 0, .int .i64 0, .slice none 0 0] := by
    have h0 := Blk.new (w.alloc (.cells #[.int .i64 floor, .int .i64 term, .int .i64 vote, .slice A0 n0 c0] 45)) 45 [.int .i64 0, .int .i64 0, .int .i64 0, .slice none 0 0]
    simpa using h0
  have hx0 : Ext w ((w.alloc (.cells #[.int .i64 floor, .int .i64 term, .int .i64 vote, .slice A0 n0 c0] 45)).alloc (.cells #[.int .i64 0, .int .i64 0, .int .i64 0, .slice none 0 0] 45)) := ((Ext.refl w).alloc _).alloc _
  have hL0 : LogI A0 n0 c0 l0 ((w.alloc (.cells #[.int .i64 floor, .int .i64 term, .int .i64 vote, .slice A0 n0 c0] 45)).alloc (.cells #[.int .i64 0, .int .i64 0, .int .i64 0, .slice none 0 0] 45)) (w.heap.size + 2) A0 n0 c0 l0 := ⟨.inl ⟨rfl, rfl, rfl, rfl⟩, fun y hy => .inl hy⟩
  have HR := Lib.hid hR
  have HRUN := Lib.hid h
  have HL0 := Lib.hid hL0
  have HS0 := Lib.hid hs
  clear hs hR h hL0
  go_enter Try.func40, Try.ntmps40
  go_wp2
  go_loopw [6] (fun i wr => ∃ (j : Nat) (fl tm vt : Int) (A : Option Addr) (n c : Nat) (l : List EV), i = .int .i64 j ∧ j ≤ m ∧ Ext w wr ∧ Blk wr (w.heap.size + 1) 45 [.int .i64 0, .int .i64 0, .int .i64 0, .slice none 0 0] ∧ Blk wr w.heap.size 45 [.int .i64 fl, .int .i64 tm, .int .i64 vt, .slice A n c] ∧ LogI A0 n0 c0 l0 wr (w.heap.size + 2) A n c l ∧ Hid (RunR ⟨fl, tm, vt, l.map EV.p⟩ (rs.drop j) s') ∧ n ≤ max n0 64) (fun i _ => m - (intOf i).toNat)
  case atStart => exact ⟨0, floor, term, vote, A0, n0, c0, l0, rfl, by omega, hx0, hB1, hB0, HL0.out, HRUN, by omega⟩
  case round =>
    clear HL0 HRUN hx0 hB0 hB1
    obtain ⟨j, fl, tm, vt, A, n, c, l, rfl, hj, hx, hB1, hB0, hL, HRUN, hn6⟩ := hrel
    by_cases hjm : j < m
    · have hjl : j < rs.length := by omega
      obtain ⟨s1, hst, hrun⟩ := RunR.inv (show RunR ⟨fl, tm, vt, l.map EV.p⟩ (rs[j] :: rs.drop (j + 1)) s' by rw [← List.drop_eq_getElem_cons hjl]; exact HRUN.out)
      obtain ⟨b, off, hRA, d0, d1, d2, d3⟩ := (HR.out.ext hx).at_ hjm
      have hok := HR.out.ok rs[j] (List.getElem_mem _)
      generalize rs[j] = r at *
      subst hRA
      obtain ⟨hes, hnc, hcm'⟩ := hL.all HS0.out hle hcm hx
      have HS := Lib.hid (fun (w' : World) (h : Ext wr w') => ref15_Step_R fl tm vt A n c l r s1 hst w' (hes.ext h) (by omega) (hok.ext (hx.trans h)))
      have HL := Lib.hid hL
      have HRUN2 := Lib.hid hrun
      have hj0 : (0 : Int) ≤ j := by omega
      have hj1 : (j : Int) < m := by omega
      have a0 := hB0.cell 0
      have a1 := hB0.cell 1
      have a2 := hB0.cell 2
      have a3 := hB0.cell 3
      simp only [List.getElem?_cons_zero, List.getElem?_cons_succ] at a0 a1 a2 a3
      clear hst hrun hok hes hL HRUN
      go_wp2_with fail
      go_region_held3 (fun w' => w'.cell? ⟨b, off + j * 4, none⟩ = some (.int .i64 r.kind) ∧ w'.cell? ⟨b, off + j * 4 + 1, none⟩ = some (.int .i64 r.a) ∧ w'.cell? ⟨b, off + j * 4 + 2, none⟩ = some (.int .i64 r.b) ∧ w'.cell? ⟨b, off + j * 4 + 3, none⟩ = some (.slice r.A r.len r.cap) ∧ w'.cell? ⟨w.heap.size, 0, none⟩ = some (.int .i64 fl) ∧ w'.cell? ⟨w.heap.size, 1, none⟩ = some (.int .i64 tm) ∧ w'.cell? ⟨w.heap.size, 2, none⟩ = some (.int .i64 vt) ∧ w'.cell? ⟨w.heap.size, 3, none⟩ = some (.slice A n c))
        (first | (with_reducible exact ⟨x02.cell d0, x02.cell d1, x02.cell d2, x02.cell d3, x02.cell a0, x02.cell a1, x02.cell a2, x02.cell a3⟩) | (with_reducible exact ⟨(x02.alloc _).cell d0, (x02.alloc _).cell d1, (x02.alloc _).cell d2, (x02.alloc _).cell d3, (x02.alloc _).cell a0, (x02.alloc _).cell a1, (x02.alloc _).cell a2, (x02.alloc _).cell a3⟩) | (exact ⟨((((x02.setCell (p := ⟨wr.heap.size, 0, none⟩) (Nat.le_refl _) (.int .i64 s1.floor)).setCell (p := ⟨wr.heap.size, 1, none⟩) (Nat.le_refl _) (.int .i64 s1.term)).setCell (p := ⟨wr.heap.size, 2, none⟩) (Nat.le_refl _) (.int .i64 s1.vote)).setCell (p := ⟨wr.heap.size, 3, none⟩) (Nat.le_refl _) (.slice A2 n2 k2)).cell d0, ((((x02.setCell (p := ⟨wr.heap.size, 0, none⟩) (Nat.le_refl _) (.int .i64 s1.floor)).setCell (p := ⟨wr.heap.size, 1, none⟩) (Nat.le_refl _) (.int .i64 s1.term)).setCell (p := ⟨wr.heap.size, 2, none⟩) (Nat.le_refl _) (.int .i64 s1.vote)).setCell (p := ⟨wr.heap.size, 3, none⟩) (Nat.le_refl _) (.slice A2 n2 k2)).cell d1, ((((x02.setCell (p := ⟨wr.heap.size, 0, none⟩) (Nat.le_refl _) (.int .i64 s1.floor)).setCell (p := ⟨wr.heap.size, 1, none⟩) (Nat.le_refl _) (.int .i64 s1.term)).setCell (p := ⟨wr.heap.size, 2, none⟩) (Nat.le_refl _) (.int .i64 s1.vote)).setCell (p := ⟨wr.heap.size, 3, none⟩) (Nat.le_refl _) (.slice A2 n2 k2)).cell d2, ((((x02.setCell (p := ⟨wr.heap.size, 0, none⟩) (Nat.le_refl _) (.int .i64 s1.floor)).setCell (p := ⟨wr.heap.size, 1, none⟩) (Nat.le_refl _) (.int .i64 s1.term)).setCell (p := ⟨wr.heap.size, 2, none⟩) (Nat.le_refl _) (.int .i64 s1.vote)).setCell (p := ⟨wr.heap.size, 3, none⟩) (Nat.le_refl _) (.slice A2 n2 k2)).cell d3, ((((x02.setCell (p := ⟨wr.heap.size, 0, none⟩) (Nat.le_refl _) (.int .i64 s1.floor)).setCell (p := ⟨wr.heap.size, 1, none⟩) (Nat.le_refl _) (.int .i64 s1.term)).setCell (p := ⟨wr.heap.size, 2, none⟩) (Nat.le_refl _) (.int .i64 s1.vote)).setCell (p := ⟨wr.heap.size, 3, none⟩) (Nat.le_refl _) (.slice A2 n2 k2)).cell a0, ((((x02.setCell (p := ⟨wr.heap.size, 0, none⟩) (Nat.le_refl _) (.int .i64 s1.floor)).setCell (p := ⟨wr.heap.size, 1, none⟩) (Nat.le_refl _) (.int .i64 s1.term)).setCell (p := ⟨wr.heap.size, 2, none⟩) (Nat.le_refl _) (.int .i64 s1.vote)).setCell (p := ⟨wr.heap.size, 3, none⟩) (Nat.le_refl _) (.slice A2 n2 k2)).cell a1, ((((x02.setCell (p := ⟨wr.heap.size, 0, none⟩) (Nat.le_refl _) (.int .i64 s1.floor)).setCell (p := ⟨wr.heap.size, 1, none⟩) (Nat.le_refl _) (.int .i64 s1.term)).setCell (p := ⟨wr.heap.size, 2, none⟩) (Nat.le_refl _) (.int .i64 s1.vote)).setCell (p := ⟨wr.heap.size, 3, none⟩) (Nat.le_refl _) (.slice A2 n2 k2)).cell a2, ((((x02.setCell (p := ⟨wr.heap.size, 0, none⟩) (Nat.le_refl _) (.int .i64 s1.floor)).setCell (p := ⟨wr.heap.size, 1, none⟩) (Nat.le_refl _) (.int .i64 s1.term)).setCell (p := ⟨wr.heap.size, 2, none⟩) (Nat.le_refl _) (.int .i64 s1.vote)).setCell (p := ⟨wr.heap.size, 3, none⟩) (Nat.le_refl _) (.slice A2 n2 k2)).cell a3⟩) | (with_reducible exact ⟨(Ext.refl wr).drew.cell d0, (Ext.refl wr).drew.cell d1, (Ext.refl wr).drew.cell d2, (Ext.refl wr).drew.cell d3, (Ext.refl wr).drew.cell a0, (Ext.refl wr).drew.cell a1, (Ext.refl wr).drew.cell a2, (Ext.refl wr).drew.cell a3⟩) | (with_reducible exact ⟨((Ext.refl wr).alloc _).drew.cell d0, ((Ext.refl wr).alloc _).drew.cell d1, ((Ext.refl wr).alloc _).drew.cell d2, ((Ext.refl wr).alloc _).drew.cell d3, ((Ext.refl wr).alloc _).drew.cell a0, ((Ext.refl wr).alloc _).drew.cell a1, ((Ext.refl wr).alloc _).drew.cell a2, ((Ext.refl wr).alloc _).drew.cell a3⟩) | go_keep)
        (first | (go_at_call 49; refine (HS.out _ (by first | exact (Ext.refl wr).drew | exact ((Ext.refl wr).alloc _).drew)).mono ?_; rintro e w2 ⟨A2, n2, k2, l2, rfl, hown2, hmem2, hmap2, hn2, x2⟩; have x02 : Ext wr w2 := (by first | exact (Ext.refl wr).drew.trans x2 | exact ((Ext.refl wr).alloc _).drew.trans x2); first | (have NB : Blk w2 wr.heap.size 45 [.int .i64 0, .int .i64 0, .int .i64 0, .slice none 0 0] := (Blk.new wr _ _).drew.ext x2; have n0' := NB.cell 0; have n1 := NB.cell 1; have n2' := NB.cell 2; have n3 := NB.cell 3; have m0 := NB.frozen 0; have m1 := NB.frozen 1; have m2 := NB.frozen 2; have m3 := NB.frozen 3; simp only [List.getElem?_cons_zero, List.getElem?_cons_succ] at n0' n1 n2' n3; have HNB := Lib.hid NB; clear NB) | skip))
      · have hlt1 := hB1.lt
        have BT : Blk (w2.alloc (.cells #[.int .i64 s1.floor, .int .i64 s1.term, .int .i64 s1.vote, .slice A2 n2 k2] 45)) (w2.heap.size) 45 [.int .i64 s1.floor, .int .i64 s1.term, .int .i64 s1.vote, .slice A2 n2 k2] := Blk.new w2 _ [.int .i64 s1.floor, .int .i64 s1.term, .int .i64 s1.vote, .slice A2 n2 k2]
        have Y := x02.alloc (.cells #[.int .i64 s1.floor, .int .i64 s1.term, .int .i64 s1.vote, .slice A2 n2 k2] 45)
        have LW : LogI A0 n0 c0 l0 (w2.alloc (.cells #[.int .i64 s1.floor, .int .i64 s1.term, .int .i64 s1.vote, .slice A2 n2 k2] 45)) (w.heap.size + 2) A2 n2 k2 l2 := HL.out.step Y (b := wr.heap.size) (by omega) (hown2.alloc _) (fun y hy => (hmem2 y hy).imp id (fun q => q.ext ((Ext.refl w2).alloc _)))
        have B0 := hB0.ext Y
        have B1 := hB1.ext Y
        have hxW := hx.trans Y
        clear hB0 hB1 hown2 hmem2 x2 x02 a0 a1 a2 a3 d0 d1 d2 d3 Y
        generalize (w2.alloc (.cells #[.int .i64 s1.floor, .int .i64 s1.term, .int .i64 s1.vote, .slice A2 n2 k2] 45)) = W at *
        have t0 := BT.cell 0
        have t1 := BT.cell 1
        have t2 := BT.cell 2
        have t3 := BT.cell 3
        have f0 := B0.frozen 0
        have f1 := B0.frozen 1
        have f2 := B0.frozen 2
        have f3 := B0.frozen 3
        have a0 := B0.cell 0
        have a1 := B0.cell 1
        have a2 := B0.cell 2
        have a3 := B0.cell 3
        have hltT := BT.lt
        have hlt0 := B0.lt
        simp only [List.getElem?_cons_zero, List.getElem?_cons_succ] at t0 t1 t2 t3 a0 a1 a2 a3
        have HB0 := Lib.hid B0
        have HB1 := Lib.hid B1
        have HLW := Lib.hid LW
        have HMAP := Lib.hid hmap2
        clear B0 B1 BT LW hmap2
        go_wp2
        go_roundw
        case rel =>
          refine ⟨j + 1, s1.floor, s1.term, s1.vote, A2, n2, k2, l2, val_int (by omega), by omega, Ext.set4 hxW (g := w.heap.size) (Nat.le_refl _) _ _ _ _, HB1.out.far4 (g' := w.heap.size) (by omega) _ _ _ _, (((HB0.out.set_ 0 _).set_ 1 _).set_ 2 _).set_ 3 _, HLW.out.set4 (by omega) _ _ _ _, Lib.hid ?_, by omega⟩
          rw [HMAP.out]; exact HRUN2.out
        case measure => simp [intOf]; omega
      · have hlt1 := hB1.lt
        have BT : Blk ((((w2.setCell ⟨wr.heap.size, 0, none⟩ (.int .i64 s1.floor)).setCell ⟨wr.heap.size, 1, none⟩ (.int .i64 s1.term)).setCell ⟨wr.heap.size, 2, none⟩ (.int .i64 s1.vote)).setCell ⟨wr.heap.size, 3, none⟩ (.slice A2 n2 k2)) (wr.heap.size) 45 [.int .i64 s1.floor, .int .i64 s1.term, .int .i64 s1.vote, .slice A2 n2 k2] := (((HNB.out.set_ 0 _).set_ 1 _).set_ 2 _).set_ 3 _
        have Y := ((((x02.setCell (p := ⟨wr.heap.size, 0, none⟩) (Nat.le_refl _) (.int .i64 s1.floor)).setCell (p := ⟨wr.heap.size, 1, none⟩) (Nat.le_refl _) (.int .i64 s1.term)).setCell (p := ⟨wr.heap.size, 2, none⟩) (Nat.le_refl _) (.int .i64 s1.vote)).setCell (p := ⟨wr.heap.size, 3, none⟩) (Nat.le_refl _) (.slice A2 n2 k2))
        have LW : LogI A0 n0 c0 l0 ((((w2.setCell ⟨wr.heap.size, 0, none⟩ (.int .i64 s1.floor)).setCell ⟨wr.heap.size, 1, none⟩ (.int .i64 s1.term)).setCell ⟨wr.heap.size, 2, none⟩ (.int .i64 s1.vote)).setCell ⟨wr.heap.size, 3, none⟩ (.slice A2 n2 k2)) (w.heap.size + 2) A2 n2 k2 l2 := HL.out.step Y (b := wr.heap.size + 1) (by omega) (own_set4 (own_base (base' := wr.heap.size + 1) hown2 (by simp)) (by omega) _ _ _ _) (fun y hy => (hmem2 y hy).imp id (fun q => OwnEv.set4 (q.to (by simp)) (by omega) _ _ _ _))
        have B0 := hB0.ext Y
        have B1 := hB1.ext Y
        have hxW := hx.trans Y
        clear hB0 hB1 hown2 hmem2 x2 x02 a0 a1 a2 a3 d0 d1 d2 d3 Y
        generalize ((((w2.setCell ⟨wr.heap.size, 0, none⟩ (.int .i64 s1.floor)).setCell ⟨wr.heap.size, 1, none⟩ (.int .i64 s1.term)).setCell ⟨wr.heap.size, 2, none⟩ (.int .i64 s1.vote)).setCell ⟨wr.heap.size, 3, none⟩ (.slice A2 n2 k2)) = W at *
        have t0 := BT.cell 0
        have t1 := BT.cell 1
        have t2 := BT.cell 2
        have t3 := BT.cell 3
        have f0 := B0.frozen 0
        have f1 := B0.frozen 1
        have f2 := B0.frozen 2
        have f3 := B0.frozen 3
        have a0 := B0.cell 0
        have a1 := B0.cell 1
        have a2 := B0.cell 2
        have a3 := B0.cell 3
        have hltT := BT.lt
        have hlt0 := B0.lt
        simp only [List.getElem?_cons_zero, List.getElem?_cons_succ] at t0 t1 t2 t3 a0 a1 a2 a3
        have HB0 := Lib.hid B0
        have HB1 := Lib.hid B1
        have HLW := Lib.hid LW
        have HMAP := Lib.hid hmap2
        clear B0 B1 BT LW hmap2
        go_wp2
        go_roundw
        case rel =>
          refine ⟨j + 1, s1.floor, s1.term, s1.vote, A2, n2, k2, l2, val_int (by omega), by omega, Ext.set4 hxW (g := w.heap.size) (Nat.le_refl _) _ _ _ _, HB1.out.far4 (g' := w.heap.size) (by omega) _ _ _ _, (((HB0.out.set_ 0 _).set_ 1 _).set_ 2 _).set_ 3 _, HLW.out.set4 (by omega) _ _ _ _, Lib.hid ?_, by omega⟩
          rw [HMAP.out]; exact HRUN2.out
        case measure => simp [intOf]; omega
    · have hjn : ¬ ((j : Int) < m) := by omega
      have hnil : rs.drop j = [] := List.drop_eq_nil_of_le (by omega)
      have hend := RunR.inv_nil (show RunR ⟨fl, tm, vt, l.map EV.p⟩ [] s' by rw [← hnil]; exact HRUN.out)
      subst hend
      have a0 := hB0.cell 0
      have a1 := hB0.cell 1
      have a2 := hB0.cell 2
      have a3 := hB0.cell 3
      have z0 := hB1.cell 0
      have z1 := hB1.cell 1
      have z2 := hB1.cell 2
      have z3 := hB1.cell 3
      have f0 := hB1.frozen 0
      have f1 := hB1.frozen 1
      have f2 := hB1.frozen 2
      have f3 := hB1.frozen 3
      have hlt1 := hB1.lt
      have hlt0 := hB0.lt
      simp only [List.getElem?_cons_zero, List.getElem?_cons_succ] at a0 a1 a2 a3 z0 z1 z2 z3
      have HLW := Lib.hid hL
      clear hB0 hB1 hL HRUN hnil
      go_wp2
      refine bodyPost_ret (v := .tuple #[.agg #[.int .i64 fl, .int .i64 tm, .int .i64 vt, .slice A n c], .int .i64 0]) (by simp [results, Try.results40, go_sem, z0, z1, z2, z3]) rfl ?_
      have hL4 := HLW.out.set4 (g := w.heap.size + 1) (by omega) (.int .i64 fl) (.int .i64 tm) (.int .i64 vt) (.slice A n c)
      have hx4 := Ext.set4 hx (g := w.heap.size + 1) (by omega) (.int .i64 fl) (.int .i64 tm) (.int .i64 vt) (.slice A n c)
      obtain ⟨q1, q2, q3⟩ := hL4.all HS0.out hle hcm hx4
      exact ⟨A, n, c, l, rfl, q1, q2, q3, rfl, hn6, hx4, hL4.to (by omega)⟩
def StepsR (s' : SP) (n0 : Nat) (w : World) (e : Ending) (w' : World) : Prop :=
  ∃ (A' : Option Addr) (n' c' : Nat) (l' : List EV), e = .returned (.tuple #[.agg #[.int .i64 s'.floor, .int .i64 s'.term, .int .i64 s'.vote, .slice A' n' c'], .int .i64 0]) ∧ Es w' A' n' l' ∧ n' ≤ c' ∧ c' ≤ maxLen ∧ l'.map EV.p = s'.l ∧ n' ≤ max n0 64 ∧ Ext w w'
theorem ref18_Steps_R (floor term vote : Int) (A0 : Option Addr) (n0 c0 : Nat) (l0 : List EV) (R : Option Addr) (m q : Nat) (rs : List RV) (s' : SP) (h : RunR ⟨floor, term, vote, l0.map EV.p⟩ rs s') (w : World) (hs : Es w A0 n0 l0) (hle : n0 ≤ c0) (hcm : c0 ≤ maxLen) (hn : n0 ≤ 1000) (hR : Rs w R m rs) (hm : m ≤ 1000) :
    Calls Try.prog 40 #[.agg #[.int .i64 floor, .int .i64 term, .int .i64 vote, .slice A0 n0 c0], .slice R m q] w (StepsR s' n0 w) := by
  refine (ref18_Steps_L floor term vote A0 n0 c0 l0 R m q rs s' h w hs hle hcm hn hR hm).mono ?_
  rintro e w' ⟨A', n', c', l', h1, h2, h3, h4, h5, h6, h7, _⟩
  exact ⟨A', n', c', l', h1, h2, h3, h4, h5, h6, h7⟩
end Go.Proofs.Ytcdnjhcddbkciaa
