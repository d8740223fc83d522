/- Words and walks that the last text of this claim stands on: OwnG, ImS, RefP. No condition. -/
import Derived.Test.YtiildgoaiookhaaB11
import Derived.Test.YtiildgoaiookhaaB03
import Derived.Test.YtiildgoaiookhaaB10
/- Rows of the call's own beside one that grows. -/
namespace Go.Proofs.Ytiildgoaiookhaa
open Go.RowKit

theorem own_grown {w w' : World} {base : Nat} {e : TypeId} {size n : Nat} {v : Value} {xs : List Value} {row : Option Nat} (h : w.ownsRow base e size v n xs) (hg : w.grownBy w' row) (hr : v.ownBlock = none ∨ v.ownBlock ≠ row) : w'.ownsRow base e size v n xs := by
  refine ⟨h.1, ?_⟩
  rcases h.2 with hn | ⟨g, cap, cur, rfl, hb, hgg, rest⟩
  · exact .inl hn
  · refine .inr ⟨g, cap, cur, rfl, hb, ?_, rest⟩
    rw [hg.block g (Array.getElem?_eq_some_iff.1 hgg).1 (by rcases hr with hr | hr <;> simp [Value.ownBlock] at hr ⊢; exact hr)]
    exact hgg
theorem OwnF.ext {w w' : World} {B : Nat} {f : FV} (h : OwnF w B f) (he : Ext w w') : OwnF w' B f := ⟨own_ext h.1 he, h.2⟩
theorem OwnF.to {w : World} {B B' : Nat} {f : FV} (h : OwnF w B f) (hB : B' ≤ B) : OwnF w B' f := ⟨own_base h.1 hB, h.2⟩
theorem OwnF.grown {w w' : World} {B B' : Nat} {f : FV} {v : Value} {n : Nat} {xs : List Value} (h : OwnF w B f) (hv : w.ownsRow B' 96 4 v n xs) (hg : w.grownBy w' v.ownBlock) : OwnF w' B f :=
  ⟨own_grown h.1 hg (own_apart h.1 hv (by decide)), h.2⟩
/-- a row of fields that are the call's own, as well as their bytes -/
structure OwnR (w : World) (B : Nat) (v : Value) (d : List FV) : Prop where
  row : w.ownsRow B 96 4 v d.length (rowOf d)
  own : ∀ f ∈ d, OwnF w B f
theorem OwnR.ext {w w' : World} {B : Nat} {v : Value} {d : List FV} (h : OwnR w B v d) (he : Ext w w') : OwnR w' B v d := ⟨own_ext h.row he, fun f hf => (h.own f hf).ext he⟩
theorem OwnR.to {w : World} {B B' : Nat} {v : Value} {d : List FV} (h : OwnR w B v d) (hB : B' ≤ B) : OwnR w B' v d := ⟨own_base h.row hB, fun f hf => (h.own f hf).to hB⟩
/-- a field more -/
theorem OwnR.app {w w' : World} {B : Nat} {v v' : Value} {d : List FV} {f : FV} (h : OwnR w B v d) (hf : OwnF w B f) (hg : w.grownBy w' v.ownBlock) (hown : w'.ownsRow B 96 4 v' (d.length + 1) (rowOf d ++ f.cells)) : OwnR w' B v' (d ++ [f]) := by
  refine ⟨own_to hown (Nat.le_refl _) (by simp) (by rw [rowOf_append, rowOf_one]), fun g hg' => ?_⟩
  rcases List.mem_append.1 hg' with hg' | hg'
  · exact (h.own g hg').grown h.row hg
  · simp only [List.mem_singleton] at hg'
    subst hg'; exact hf.grown h.row hg
theorem OwnR.fs {w : World} {B : Nat} {A : Option Addr} {n c : Nat} {d : List FV} (h : OwnR w B (.slice A n c) d) (hn : n = d.length) : Fs w A n d := by
  subst hn; exact Fs.of_own h.row fun f hf => (h.own f hf).ok
theorem OwnF.set {w : World} {B : Nat} {f : FV} (h : OwnF w B f) {p : Addr} (hp : p.block < B) (u : Value) : OwnF (w.setCell p u) B f := ⟨own_set h.1 hp u, h.2⟩
theorem OwnR.set {w : World} {B : Nat} {v : Value} {d : List FV} (h : OwnR w B v d) {p : Addr} (hp : p.block < B) (u : Value) : OwnR (w.setCell p u) B v d := ⟨own_set h.row hp u, fun f hf => (h.own f hf).set hp u⟩
end Go.Proofs.Ytiildgoaiookhaa

/- The walk of some of layer 10's laws. (Turned from that of few of layer 4's by wip/tools/some.py.) -/
namespace Go.Proofs.Ytiildgoaiookhaa
open Go.RowKit

/-- at most 12 fields, of 60 bytes each -/
def some12 (l : List FV) : List FV := (l.take 12).map (cutF 60)
theorem some12_len (l : List FV) : (some12 l).length = min 12 l.length := by simp [some12]
theorem some12_snoc (l : List FV) (j : Nat) (h : j < l.length) (h12 : j < 12) : (some12 l).take (j + 1) = (some12 l).take j ++ [cutF 60 l[j]] := by
  have hl : j < (some12 l).length := by rw [some12_len]; omega
  rw [List.take_succ_eq_append_getElem hl]
  congr 2
  simp [some12]
theorem some12_ok {l : List FV} {w : World} (h : ∀ f ∈ l, f.Ok w) : ∀ f ∈ some12 l, f.Ok w := by
  intro f hf
  obtain ⟨g, hg, rfl⟩ := List.mem_map.1 hf
  exact cutF_ok (h g (List.mem_of_mem_take hg))
theorem some12_cut (l : List FV) : ∀ f ∈ some12 l, f.len ≤ 60 := by
  intro f hf
  obtain ⟨g, _, rfl⟩ := List.mem_map.1 hf
  unfold cutF
  split
  · exact Nat.le_refl _
  · omega

set_option maxRecDepth 100000 in
set_option maxHeartbeats 1600000 in
theorem law10_some (A : Option Addr) (n c : Nat) (l : List FV) (w : World) (hf : Fs w A n l) (hcm : c ≤ maxLen) (hnc : n ≤ c) :
    Calls Try.prog 74 #[.slice A n c] w fun e w' => ∃ v, e = .returned v ∧ w'.ownsRow w.heap.size 96 4 v (min 12 n) (rowOf (some12 l)) ∧ Ext w w' := by
  have hlen := hf.len
  have hmx : n ≤ 9223372036854775807 := by unfold maxLen at hcm; omega
  clear hcm hnc
  go_enter Try.func74, Try.ntmps74
  go_wp2
  have h0 := own_empty w 96 4
  go_loopw [3, 4] (fun v i wr => ∃ j : Nat, i = .int .i64 j ∧ j ≤ n ∧ j ≤ 12 ∧ wr.ownsRow w.heap.size 96 4 v j (rowOf ((some12 l).take j)) ∧ Ext w wr) (fun _ i _ => 12 - (intOf i).toNat)
  case atStart => exact ⟨0, rfl, by omega, by omega, by simpa [rowOf] using h0, (Ext.refl w).alloc _⟩
  case round =>
    obtain ⟨j, rfl, hj, hj12, hown, hx⟩ := hrel
    by_cases hjn : j < n
    · by_cases hj6 : j < 12
      · obtain ⟨b, off, rfl, d0, d1, d2, d3⟩ := (hf.ext hx).at_ hjn
        have hle := ((hf.ext hx).ok l[j] (List.getElem_mem _)).le
        have hsn := some12_snoc l j (by omega) hj6
        generalize l[j] = f at *
        obtain ⟨num, wire, fn, fA, flen, fcap, fb⟩ := f
        dsimp only at d0 d1 d2 d3 hle
        have Hsn := Lib.hid hsn; clear hsn
        have hszw := hx.size
        by_cases hc : 60 < flen
        · go_wp2_with (at_builtin; refine wpList_app fieldsT (by omega) _ rfl rfl rfl ((hown.alloc _).alloc _) rfl (rd_at4 _ (.int .i64 num) (.int .i64 wire) (.int .u64 fn) (.slice fA 60 fcap) _ _ (by simp)) (fcells_one _ _ _ _ _ _) (by unfold maxLen; omega) (by omega) (by simp; omega) ?_; intro v1 w1 hown1 hg1 hat1)
          go_roundw
          case rel => exact ⟨j + 1, val_int (by omega), by omega, by omega, own_to hown1 (Nat.le_refl _) rfl (by rw [Hsn.out, rowOf_append, rowOf_one]; simp [cutF, hc, FV.cells]), Below.app ((hx.alloc _).alloc _) hg1 (by simp; omega) ((hown.alloc _).alloc _) (Nat.le_refl _)⟩
          case measure => simp [intOf]; omega
        · go_wp2_with (at_builtin; refine wpList_app fieldsT (by omega) _ rfl rfl rfl ((hown.alloc _).alloc _) rfl (rd_at4 _ (.int .i64 num) (.int .i64 wire) (.int .u64 fn) (.slice fA flen fcap) _ _ (by simp)) (fcells_one _ _ _ _ _ _) (by unfold maxLen; omega) (by omega) (by simp; omega) ?_; intro v1 w1 hown1 hg1 hat1)
          go_roundw
          case rel => exact ⟨j + 1, val_int (by omega), by omega, by omega, own_to hown1 (Nat.le_refl _) rfl (by rw [Hsn.out, rowOf_append, rowOf_one]; simp [cutF, hc, FV.cells]), Below.app ((hx.alloc _).alloc _) hg1 (by simp; omega) ((hown.alloc _).alloc _) (Nat.le_refl _)⟩
          case measure => simp [intOf]; omega
      · obtain rfl : 12 = j := by omega
        have t1 : decide ((12 : Int) < (n : Int)) = true := dec_t (by omega)
        go_wp2
        go_ret
        refine ⟨_, rfl, ?_, hx⟩
        exact own_to hown (Nat.le_refl _) (by omega) (by rw [List.take_of_length_le (by rw [some12_len]; omega)])
    · obtain rfl : n = j := by omega
      go_wp2
      go_ret
      refine ⟨_, rfl, ?_, hx⟩
      exact own_to hown (Nat.le_refl _) (by omega) (by rw [List.take_of_length_le (by rw [some12_len]; omega)])
end Go.Proofs.Ytiildgoaiookhaa

/- The walks of coracleref03.Put and coracleref03.Split. -/
namespace Go.Proofs.Ytiildgoaiookhaa
open Go.RowKit

set_option maxRecDepth 100000 in
set_option maxHeartbeats 800000 in
theorem ref03_Put_no (A : Option Addr) (n c : Nat) (l : List FV) (w : World) (hf : Fs w A n l) (hn : n ≤ 20000) (hno : fmay l ≠ 0) :
    Calls Try.prog 77 #[.slice A n c] w fun e w' => e = .returned (.tuple #[.slice none 0 0, .int .i64 (fmay l)]) ∧ Ext w w' := by
  have hb := bne_t (show ((fmay l : Nat) : Int) ≠ 0 by omega)
  have HM := Lib.hid (ref03_May A n c l w hf hn)
  generalize fmay l = E at *
  clear hno hf
  go_enter Try.func77, Try.ntmps77
  go_wp2_with fail
  refine HM.out.mono ?_
  rintro e w1 ⟨rfl, x1⟩
  go_wp2
  go_ret2
  exact ⟨rfl, x1⟩

set_option maxRecDepth 100000 in
set_option maxHeartbeats 800000 in
theorem ref03_Put_ok (A : Option Addr) (n c : Nat) (l : List FV) (w : World) (hf : Fs w A n l) (hn : n ≤ 20000) (hno : fmay l = 0) :
    Calls Try.prog 77 #[.slice A n c] w fun e w' => ∃ v, e = .returned (.tuple #[v, .int .i64 0]) ∧ w'.ownsRow w.heap.size 5 1 v (rput l).length ((rput l).map bv) ∧ Ext w w' := by
  have hlen := hf.len
  obtain ⟨hall, hsum⟩ := fmay_ok hno
  have hM := ref03_May A n c l w hf hn
  rw [hno] at hM
  have HM := Lib.hid hM; clear hM hno
  have Hall := Lib.hid hall; clear hall
  go_enter Try.func77, Try.ntmps77
  go_wp2_with fail
  refine HM.out.mono ?_
  rintro e w1 ⟨rfl, x1⟩
  have h0 := own_base (base' := w.heap.size) (own_empty w1 5 1) x1.size
  go_wp2
  go_loopw [5, 6] (fun v i wr => ∃ j : Nat, i = .int .i64 j ∧ j ≤ n ∧ wr.ownsRow w.heap.size 5 1 v (rput (l.take j)).length ((rput (l.take j)).map bv) ∧ Ext w wr) (fun _ i _ => n - (intOf i).toNat)
  case atStart => exact ⟨0, rfl, by omega, by simpa [rput] using h0, x1.alloc _⟩
  case round =>
    clear h0 x1
    obtain ⟨j, rfl, hj, hown, hx⟩ := hrel
    by_cases hjn : j < n
    · obtain ⟨b, off, rfl, d0, d1, d2, d3⟩ := (hf.ext hx).at_ hjn
      have hok := (hf.ext hx).ok l[j] (List.getElem_mem _)
      have hal := Hall.out l[j] (List.getElem_mem _)
      have hsn := rput_snoc l j (by omega)
      have hle : (rput (l.take j)).length ≤ 16384 := by rw [rput_len]; have := fsum_take l j; omega
      have hfs := fsize_le l[j] hal.1 hok hal.2
      have HP := Lib.hid (ref03_one_f l[j] _ hal.1 hok hal.2)
      have hszw := hx.size
      change Hid (Calls _ _ _ _ fun e w' => ∃ v, e = .returned v ∧ w'.ownsRow _ 5 1 v (fsize l[j]) ((fbytes l[j]).map bv) ∧ _) at HP
      have hbl : (fbytes l[j]).length = fsize l[j] := rfl
      generalize l[j] = f at *
      generalize rput (l.take j) = R at *
      have Hsn := Lib.hid hsn; clear hsn
      have Hbl := Lib.hid hbl; clear hbl
      clear hal hok
      go_wp2_with fail
      refine HP.out.mono ?_
      rintro e w2 ⟨v2, rfl, hown2, y2⟩
      obtain ⟨A2, k2, rfl, _⟩ := own_form hown2
      have b2 := Rd.of_own hown2
      have hown' := own_ext hown y2
      have hz2 := y2.size
      go_wp2_with (at_builtin; refine wpList_app bytesT (by omega) _ rfl rfl rfl hown' rfl b2 (bvs_one _) (by unfold maxLen; omega) (by omega) (by omega) ?_; intro v3 w3 hown3 hg3 hat3)
      go_roundw
      case rel => exact ⟨j + 1, val_int (by omega), by omega, own_to hown3 (Nat.le_refl _) (by rw [Hsn.out, List.length_append, Hbl.out]) (by rw [Hsn.out, List.map_append]), Below.app (hx.trans y2) hg3 (by omega) hown' (Nat.le_refl _)⟩
      case measure => simp [intOf]; omega
    · obtain rfl : j = n := by omega
      rw [List.take_of_length_le (by omega)] at hown
      go_wp2
      go_ret2
      exact ⟨_, rfl, hown, hx⟩

end Go.Proofs.Ytiildgoaiookhaa
