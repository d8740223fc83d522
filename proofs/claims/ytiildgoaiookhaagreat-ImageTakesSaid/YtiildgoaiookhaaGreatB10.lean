/- Words and walks that the last text of this claim stands on: Split, TakeF, Parts, TakeP, TakeG, TakeM, TakeW, TakeB, TakeC, TakeS, TlvU. No condition. -/
import Derived.Test.YtiildgoaiookhaaGreatB09
import Derived.Test.YtiildgoaiookhaaGreatB03
import Derived.Test.YtiildgoaiookhaaGreatB07
import Derived.Test.YtiildgoaiookhaaGreatB01
/- The walks of bytes.Clone and tlv.Split. -/
namespace Go.Proofs.YtiildgoaiookhaaGreat
open Go.RowKit

theorem own_bounds {w : World} {base : Nat} {e : TypeId} {size n c : Nat} {A : Option Addr} {xs : List Value} (h : w.ownsRow base e size (.slice A n c) n xs) : n ≤ c ∧ c ≤ maxLen := by
  rcases h.2 with ⟨hv, h0⟩ | ⟨g, cap, cur, hv, hb, hg, hc, hm, _⟩
  · injection hv with _ _ hc; subst hc; exact ⟨by omega, by unfold maxLen; omega⟩
  · injection hv with _ _ hc'; subst hc'; exact ⟨hc, hm⟩
/-- rows of unlike elements lie in unlike blocks -/
theorem own_apart {w : World} {b b' : Nat} {e e' : TypeId} {s s' n n' : Nat} {v v' : Value} {xs xs' : List Value} (h : w.ownsRow b e s v n xs) (h' : w.ownsRow b' e' s' v' n' xs') (hne : e ≠ e') : v.ownBlock = none ∨ v.ownBlock ≠ v'.ownBlock := by
  rcases h.2 with ⟨rfl, _⟩ | ⟨g, cap, cur, rfl, _, hg, _⟩
  · exact .inl rfl
  · right
    rcases h'.2 with ⟨rfl, _⟩ | ⟨g', cap', cur', rfl, _, hg', _⟩
    · simp [Value.ownBlock]
    · intro e2
      simp only [Value.ownBlock, Option.some.injEq] at e2
      subst e2
      rw [hg] at hg'
      injection hg' with hg'
      injection hg' with _ ht
      exact hne ht

set_option maxRecDepth 100000 in
set_option maxHeartbeats 400000 in
theorem bytes_Clone (A : Option Addr) (n c : Nat) (l : List UInt8) (w : World) (hb : Bs w A n l) (hn : n ≤ 100000) :
    Calls Tryz.prog 43 #[.slice A n c] w fun e w' => ∃ v, e = .returned v ∧ w'.ownsRow w.heap.size 5 1 v n (l.map bv) ∧ Ext w w' := by
  have he := fun w => Lib.run_eql_slice_nil (P := Tryz.prog) w 22 5 A n c 0 0 Tryz.underlying22
  rcases A with _ | a
  · have h0 : n = 0 := by
      rcases Nat.eq_zero_or_pos n with h | h
      · exact h
      · obtain ⟨b, off, h', _⟩ := hb.2 h; cases h'
    subst h0
    have hl : l = [] := List.eq_nil_of_length_eq_zero hb.len
    subst hl
    simp only [Option.isNone_none] at he
    clear hb
    go_enter Tryz.func43, Tryz.ntmps43
    go_wp2
    go_ret
    exact ⟨_, rfl, World.ownsRow_nil _ _ _ _, Ext.refl w⟩
  · simp only [Option.isNone_some] at he
    have hemp := own_empty w 5 1
    go_enter Tryz.func43, Tryz.ntmps43
    go_wp2_with (at_builtin; refine wpList_app bytesT (by omega) _ rfl rfl rfl hemp rfl (Rd.alloc hb _) (bvs_one _) (by unfold maxLen; omega) (by omega) (by simp) ?_; intro v4 w4 hown4 hg4 hat4)
    go_ret
    exact ⟨_, rfl, own_to hown4 (Nat.le_refl _) (by omega) (by simp), Below.app ((Ext.refl w).alloc _) hg4 (by simp) hemp (Nat.le_refl _)⟩

/-- a field without where its bytes lie -/
def FV.s (f : FV) : Int × Int × Nat × Nat × List UInt8 := (f.num, f.wire, f.n, f.len, f.b)
/-- a field whose bytes lie in a row of the call's own -/
def OwnF (w : World) (B : Nat) (f : FV) : Prop := w.ownsRow B 5 1 (.slice f.A f.len f.cap) f.len (f.b.map bv) ∧ U64 f.n
theorem OwnF.ok {w : World} {B : Nat} {f : FV} (h : OwnF w B f) : f.Ok w := ⟨Bs.of_own h.1, (own_bounds h.1).1, (own_bounds h.1).2, h.2⟩
theorem own_ne {v v' : Value} (ha : v'.ownBlock = none ∨ v'.ownBlock ≠ v.ownBlock) : v.ownBlock = none ∨ v.ownBlock ≠ v'.ownBlock := by
  rcases hv : v.ownBlock with _ | k
  · exact .inl rfl
  · right
    rcases ha with ha | ha
    · rw [ha]; simp
    · intro e2; rw [← e2] at ha; exact ha hv.symm
theorem apart_new {w W : World} {base : Nat} {e : TypeId} {size n : Nat} {v v' u : Value} {xs : List Value} (h : w.ownsRow base e size v n xs) (hW : w.heap.size ≤ W.heap.size) (ha : v.ownBlock = none ∨ v.ownBlock ≠ u.ownBlock) (hat : v'.ownBlock = u.ownBlock ∨ v'.ownBlock = some W.heap.size) : v.ownBlock = none ∨ v.ownBlock ≠ v'.ownBlock := by
  rcases hat with e1 | e1
  · rw [e1]; exact ha
  · rcases hv : v.ownBlock with _ | k
    · exact .inl rfl
    · right
      rw [e1]
      intro e2
      injection e2 with e2
      have := (h.lt k hv).2
      omega
def loB (most : Int) (f : FV) : Bool := decide (f.num ≤ most)
theorem filt_snoc (p : FV → Bool) (l : List FV) (j : Nat) (h : j < l.length) : (l.take (j + 1)).filter p = (l.take j).filter p ++ if p l[j] then [l[j]] else [] := by
  rw [List.take_succ_eq_append_getElem h, List.filter_append]
  congr 1
  simp only [List.filter_cons, List.filter_nil]

set_option maxRecDepth 100000 in
set_option maxHeartbeats 1600000 in
theorem tlv_Split_own (most : Int) (A : Option Addr) (n c : Nat) (l : List FV) (w : World) (hf : Fs w A n l) (hn : n ≤ 20000) (hb : ∀ f ∈ l, f.len ≤ 100000) :
    Calls Tryz.prog 14 #[.slice A n c, .int .i64 most] w fun e w' => ∃ vK vQ P Q, e = .returned (.tuple #[vK, vQ]) ∧ w'.ownsRow w.heap.size 54 4 vK P.length (rowOf P) ∧ w'.ownsRow w.heap.size 54 4 vQ Q.length (rowOf Q) ∧
      (∀ f ∈ P, OwnF w' w.heap.size f) ∧ (∀ f ∈ Q, OwnF w' w.heap.size f) ∧ P.map FV.s = (l.filter (loB most)).map FV.s ∧ Q.map FV.s = (l.filter (fun f => !loB most f)).map FV.s ∧ Ext w w' := by
  have hlen := hf.len
  have hK0 := World.ownsRow_nil w w.heap.size 54 4
  have Hb := Lib.hid hb; clear hb
  go_enter Tryz.func14, Tryz.ntmps14
  go_wp2
  go_loopw [4, 5, 10] (fun vK vQ i wr => ∃ (j : Nat) (P Q : List FV), i = .int .i64 j ∧ j ≤ n ∧ wr.ownsRow w.heap.size 54 4 vK P.length (rowOf P) ∧ wr.ownsRow w.heap.size 54 4 vQ Q.length (rowOf Q) ∧ (vK.ownBlock = none ∨ vK.ownBlock ≠ vQ.ownBlock) ∧
      (∀ f ∈ P, OwnF wr w.heap.size f) ∧ (∀ f ∈ Q, OwnF wr w.heap.size f) ∧ P.map FV.s = ((l.take j).filter (loB most)).map FV.s ∧ Q.map FV.s = ((l.take j).filter (fun f => !loB most f)).map FV.s ∧ Ext w wr) (fun _ _ i _ => n - (intOf i).toNat)
  case atStart => exact ⟨0, [], [], rfl, by omega, by simpa [rowOf] using hK0, by simpa [rowOf] using hK0, .inl rfl, by simp, by simp, rfl, rfl, Ext.refl w⟩
  case round =>
    obtain ⟨j, P, Q, rfl, hj, hK, hQ, hap, hP, hQf, heP, heQ, hx⟩ := hrel
    clear hK0
    have hPl : P.length ≤ j := by
      have := congrArg List.length heP
      rw [List.length_map, List.length_map] at this
      rw [this]
      exact Nat.le_trans (List.length_filter_le _ _) (List.length_take_le _ _)
    have hQl : Q.length ≤ j := by
      have := congrArg List.length heQ
      rw [List.length_map, List.length_map] at this
      rw [this]
      exact Nat.le_trans (List.length_filter_le _ _) (List.length_take_le _ _)
    have HP := Lib.hid hP
    have HQ := Lib.hid hQf
    have HeP := Lib.hid heP
    have HeQ := Lib.hid heQ
    have Hap := Lib.hid hap
    clear hP hQf heP heQ hap
    by_cases hjn : j < n
    · obtain ⟨b, off, rfl, d0, d1, d2, d3⟩ := (hf.ext hx).at_ hjn
      have hjl : j < l.length := by omega
      have hok := (hf.ext hx).ok (l[j]'hjl) (List.getElem_mem _)
      have hb1 := Hb.out (l[j]'hjl) (List.getElem_mem _)
      have hs1 := filt_snoc (loB most) l j hjl
      have hs2 := filt_snoc (fun f => !loB most f) l j hjl
      obtain ⟨f, hfj⟩ : ∃ f, l[j]'hjl = f := ⟨_, rfl⟩
      simp only [hfj] at hok hb1 hs1 hs2 d0 d1 d2 d3
      clear hfj
      have Hs1 := Lib.hid hs1
      have Hs2 := Lib.hid hs2
      clear hs1 hs2
      obtain ⟨num, wire, fn, fA, flen, fcap, fb⟩ := f
      dsimp only at d0 d1 d2 d3 hb1
      have hB0 := Blk.new wr 54 [.int .i64 num, .int .i64 wire, .int .u64 fn, .slice fA flen fcap]
      have xa : Ext wr (wr.alloc (.cells #[.int .i64 num, .int .i64 wire, .int .u64 fn, .slice fA flen fcap] 54)) := (Ext.refl wr).alloc _
      have HC := Lib.hid (bytes_Clone fA flen fcap fb _ (hok.bs.ext xa) hb1)
      have hu := hok.u
      dsimp only at hu
      have Hu := Lib.hid hu
      clear hu hok
      have hszw := hx.size
      go_wp2_with fail
      refine HC.out.mono ?_
      rintro e w1 ⟨v1, rfl, hown1, x1⟩
      obtain ⟨A1, c1, rfl, _⟩ := own_form hown1
      have hB1 := hB0.ext x1
      have q0 := hB1.cell 0
      have q1 := hB1.cell 1
      have q2 := hB1.cell 2
      have q3 := hB1.cell 3
      have f3 := hB1.frozen 3
      simp only [List.getElem?_cons_zero, List.getElem?_cons_succ] at q0 q1 q2 q3
      have hlt1 := hB1.lt
      have XW : Ext wr (w1.setCell ⟨wr.heap.size, 3, none⟩ (.slice A1 flen c1)) := (xa.trans x1).setCell (Nat.le_refl _) _
      have hclone : (w1.setCell ⟨wr.heap.size, 3, none⟩ (.slice A1 flen c1)).ownsRow w.heap.size 5 1 (.slice A1 flen c1) flen (fb.map bv) := by
        refine own_base (base := (wr.alloc (.cells #[.int .i64 num, .int .i64 wire, .int .u64 fn, .slice fA flen fcap] 54)).heap.size) ?_ (by simp; omega)
        refine ⟨hown1.1, ?_⟩
        rcases hown1.2 with hn1 | ⟨g, cap, cur, hv, hg, hgg, rest⟩
        · exact .inl hn1
        · exact .inr ⟨g, cap, cur, hv, hg, (heap_setCell_other w1 ⟨wr.heap.size, 3, none⟩ g _ (by simp at hg; dsimp only; omega)).trans hgg, rest⟩
      have hszW := XW.size
      clear hB0 hB1 hown1 x1 xa HC d0 d1 d2 d3
      by_cases hm : num ≤ most
      · have hlo : loB most ⟨num, wire, fn, fA, flen, fcap, fb⟩ = true := by simp [loB, hm]
        have Hlo := Lib.hid hlo; clear hlo
        have hK' := (own_ext hK XW).alloc (.cells #[.int .i64 num, .int .i64 wire, .int .u64 fn, .slice A1 flen c1] 54)
        go_wp2_with (at_builtin; refine wpList_app fieldsT (by omega) _ rfl rfl rfl hK' rfl (rd_at4 _ (.int .i64 num) (.int .i64 wire) (.int .u64 fn) (.slice A1 flen c1) _ _ (by simp)) (fcells_one _ _ _ _ _ _) (by unfold maxLen; omega) (by omega) (by simp; simp at hszW; omega) ?_; intro v2 w2 hown2 hg2 hat2)
        go_roundw
        case rel =>
          refine ⟨j + 1, P ++ [⟨num, wire, fn, A1, flen, c1, fb⟩], Q, val_int (by omega), by omega, own_to hown2 (Nat.le_refl _) (by simp) (by rw [rowOf_append, rowOf_one]; rfl), ((own_ext hQ XW).alloc _).kept hg2 (own_ne Hap.out), own_ne (apart_new (W := (w1.setCell ⟨wr.heap.size, 3, none⟩ (.slice A1 flen c1)).alloc (.cells #[.int .i64 num, .int .i64 wire, .int .u64 fn, .slice A1 flen c1] 54)) hQ (by simp; simp at hszW; omega) (own_ne Hap.out) hat2), ?_, ?_, ?_, ?_, ?_⟩
          · intro f hf
            rcases List.mem_append.1 hf with hf | hf
            · exact ⟨((own_ext (HP.out f hf).1 XW).alloc _).kept hg2 (own_apart ((own_ext (HP.out f hf).1 XW).alloc _) hK' (by decide)), (HP.out f hf).2⟩
            · simp only [List.mem_singleton] at hf; subst hf
              exact ⟨(hclone.alloc _).kept hg2 (own_apart (hclone.alloc _) hK' (by decide)), Hu.out⟩
          · intro f hf
            exact ⟨((own_ext (HQ.out f hf).1 XW).alloc _).kept hg2 (own_apart ((own_ext (HQ.out f hf).1 XW).alloc _) hK' (by decide)), (HQ.out f hf).2⟩
          · rw [Hs1.out, Hlo.out, List.map_append, List.map_append, HeP.out]; rfl
          · rw [Hs2.out]; simp only [Hlo.out]; simpa using HeQ.out
          · exact Below.app ((hx.trans XW).alloc _) hg2 (by simp; simp at hszW; omega) hK' (Nat.le_refl _)
        case measure => simp [intOf]; omega
      · have hlo : loB most ⟨num, wire, fn, fA, flen, fcap, fb⟩ = false := by simp [loB]; omega
        have Hlo := Lib.hid hlo; clear hlo
        have hQ' := (own_ext hQ XW).alloc (.cells #[.int .i64 num, .int .i64 wire, .int .u64 fn, .slice A1 flen c1] 54)
        go_wp2_with (at_builtin; refine wpList_app fieldsT (by omega) _ rfl rfl rfl hQ' rfl (rd_at4 _ (.int .i64 num) (.int .i64 wire) (.int .u64 fn) (.slice A1 flen c1) _ _ (by simp)) (fcells_one _ _ _ _ _ _) (by unfold maxLen; omega) (by omega) (by simp; simp at hszW; omega) ?_; intro v2 w2 hown2 hg2 hat2)
        go_roundw
        case rel =>
          refine ⟨j + 1, P, Q ++ [⟨num, wire, fn, A1, flen, c1, fb⟩], val_int (by omega), by omega, ((own_ext hK XW).alloc _).kept hg2 Hap.out, own_to hown2 (Nat.le_refl _) (by simp) (by rw [rowOf_append, rowOf_one]; rfl), apart_new (W := (w1.setCell ⟨wr.heap.size, 3, none⟩ (.slice A1 flen c1)).alloc (.cells #[.int .i64 num, .int .i64 wire, .int .u64 fn, .slice A1 flen c1] 54)) hK (by simp; simp at hszW; omega) Hap.out hat2, ?_, ?_, ?_, ?_, ?_⟩
          · intro f hf
            exact ⟨((own_ext (HP.out f hf).1 XW).alloc _).kept hg2 (own_apart ((own_ext (HP.out f hf).1 XW).alloc _) hQ' (by decide)), (HP.out f hf).2⟩
          · intro f hf
            rcases List.mem_append.1 hf with hf | hf
            · exact ⟨((own_ext (HQ.out f hf).1 XW).alloc _).kept hg2 (own_apart ((own_ext (HQ.out f hf).1 XW).alloc _) hQ' (by decide)), (HQ.out f hf).2⟩
            · simp only [List.mem_singleton] at hf; subst hf
              exact ⟨(hclone.alloc _).kept hg2 (own_apart (hclone.alloc _) hQ' (by decide)), Hu.out⟩
          · rw [Hs1.out, Hlo.out]; simpa using HeP.out
          · rw [Hs2.out]; simp only [Hlo.out]; rw [List.map_append, List.map_append, HeQ.out]; rfl
          · exact Below.app ((hx.trans XW).alloc _) hg2 (by simp; simp at hszW; omega) hQ' (Nat.le_refl _)
        case measure => simp [intOf]; omega
    · obtain rfl : n = j := by omega
      have e1 := HeP.out
      have e2 := HeQ.out
      rw [List.take_of_length_le (by omega)] at e1 e2
      have He1 := Lib.hid e1
      have He2 := Lib.hid e2
      clear e1 e2
      go_wp2
      go_ret2
      exact ⟨_, _, P, Q, rfl, hK, hQ, HP.out, HQ.out, He1.out, He2.out, hx⟩
theorem tlv_Split (most : Int) (A : Option Addr) (n c : Nat) (l : List FV) (w : World) (hf : Fs w A n l) (hn : n ≤ 20000) (hb : ∀ f ∈ l, f.len ≤ 100000) :
    Calls Tryz.prog 14 #[.slice A n c, .int .i64 most] w fun e w' => ∃ vK vQ P Q, e = .returned (.tuple #[vK, vQ]) ∧ w'.ownsRow w.heap.size 54 4 vK P.length (rowOf P) ∧ w'.ownsRow w.heap.size 54 4 vQ Q.length (rowOf Q) ∧
      (∀ f ∈ P, f.Ok w') ∧ (∀ f ∈ Q, f.Ok w') ∧ P.map FV.s = (l.filter (loB most)).map FV.s ∧ Q.map FV.s = (l.filter (fun f => !loB most f)).map FV.s ∧ Ext w w' :=
  (tlv_Split_own most A n c l w hf hn hb).mono fun _ _ ⟨vK, vQ, P, Q, h1, h2, h3, h4, h5, h6⟩ => ⟨vK, vQ, P, Q, h1, h2, h3, fun f hf => (h4 f hf).ok, fun f hf => (h5 f hf).ok, h6⟩
end Go.Proofs.YtiildgoaiookhaaGreat

/- The walk of tlv.field. -/
namespace Go.Proofs.YtiildgoaiookhaaGreat
open Go.RowKit

set_option maxRecDepth 100000 in
set_option maxHeartbeats 800000 in
theorem tlv_field_n (A : Option Addr) (n c : Nat) (l : List UInt8) (num s N k : Nat) (w : World) (hb : Bs w A n l) (hn : n ≤ 100000) (hnc : n ≤ c) (hs : s ≤ n)
    (ht : ttake l = (num, 0, s, 0)) (hv : vtake (l.drop s) = (N, k, 0)) :
    Calls Tryz.prog 39 #[.slice A n c] w fun e w' => e = .returned (.agg #[.int .i64 num, .int .i64 0, .int .u64 N, .slice none 0 0]) ∧ Ext w w' := by
  obtain ⟨A', c', hc', hsl, hb'⟩ := cut_bytes (P := Tryz.prog) bytesT A hs hnc (s : Int) rfl
  have C1 := Lib.hid (fun (w' : World) (h : Ext w w') => tag_Take A n c l w' (hb.ext h) (by omega))
  have C2 := Lib.hid (fun (w' : World) (h : Ext w w') => varint_Take A' (n - s) c' _ w' (hb' _ _ (hb.ext h)) (by omega))
  rw [ht] at C1
  rw [hv] at C2
  unfold tq at C1
  clear hb hb' ht hv
  go_enter Tryz.func39, Tryz.ntmps39
  go_wp2_with fail
  refine (C1.out _ ((Ext.refl w).alloc _)).mono ?_
  rintro e w1 ⟨rfl, rfl⟩
  go_wp2_with fail
  refine (C2.out _ ((Ext.refl w).alloc _)).mono ?_
  rintro e w2 ⟨rfl, rfl⟩
  go_wp2
  refine bodyPost_ret (v := .agg #[.int .i64 num, .int .i64 0, .int .u64 N, .slice none 0 0]) (by simp [results, Tryz.results39, go_sem]) rfl ⟨rfl, ?_⟩
  repeat (refine Ext.setCell ?_ (by simp) _)
  exact (Ext.refl w).alloc _

set_option maxRecDepth 100000 in
set_option maxHeartbeats 800000 in
theorem tlv_field_b (A : Option Addr) (n c : Nat) (l : List UInt8) (num s N k : Nat) (w : World) (hb : Bs w A n l) (hn : n ≤ 100000) (hnc : n ≤ c) (hs : s + k ≤ n)
    (ht : ttake l = (num, 2, s, 0)) (hv : vtake (l.drop s) = (N, k, 0)) :
    Calls Tryz.prog 39 #[.slice A n c] w fun e w' => ∃ v, e = .returned (.agg #[.int .i64 num, .int .i64 2, .int .u64 0, v]) ∧ w'.ownsRow w.heap.size 5 1 v (n - (s + k)) ((l.drop (s + k)).map bv) ∧ Ext w w' := by
  obtain ⟨A', c', hc', hsl, hb'⟩ := cut_bytes (P := Tryz.prog) bytesT A (show s ≤ n by omega) hnc (s : Int) rfl
  obtain ⟨A2, c2, hc2, hsl2, hb2⟩ := cut_bytes (P := Tryz.prog) bytesT A hs hnc ((s : Int) + (k : Int)) (by omega)
  have C1 := Lib.hid (fun (w' : World) (h : Ext w w') => tag_Take A n c l w' (hb.ext h) (by omega))
  have C2 := Lib.hid (fun (w' : World) (h : Ext w w') => varint_Take A' (n - s) c' _ w' (hb' _ _ (hb.ext h)) (by omega))
  rw [ht] at C1
  rw [hv] at C2
  unfold tq at C1
  have hbc := hb2 _ _ (hb.ext ((Ext.refl w).alloc (.cells #[.int .i64 0, .int .i64 0, .int .u64 0, .slice none 0 0] 54)))
  have hB0 := Blk.new w 54 [.int .i64 0, .int .i64 0, .int .u64 0, .slice none 0 0]
  have hnil := World.ownsRow_nil (w.alloc (.cells #[.int .i64 0, .int .i64 0, .int .u64 0, .slice none 0 0] 54)) (w.heap.size + 1) 5 1
  clear hb hb' hb2 ht hv
  go_enter Tryz.func39, Tryz.ntmps39
  go_wp2_with fail
  refine (C1.out _ ((Ext.refl w).alloc _)).mono ?_
  rintro e w1 ⟨rfl, rfl⟩
  go_wp2_with fail
  refine (C2.out _ ((Ext.refl w).alloc _)).mono ?_
  rintro e w2 ⟨rfl, rfl⟩
  go_wp2_with (at_builtin; refine wpList_app bytesT (by omega) _ rfl rfl rfl hnil rfl hbc (bvs_one _) (by unfold maxLen; omega) (by omega) (by simp) ?_; intro v4 w4 hown4 hg4 hat4; have y4 : Below (w.heap.size + 1) (w.alloc (.cells #[.int .i64 0, .int .i64 0, .int .u64 0, .slice none 0 0] 54)) w4 := Below.app (Below.refl _ _) hg4 (by simp) hnil (Nat.le_refl _); obtain ⟨A4, c4, rfl, _⟩ := own_form hown4; simp only [List.nil_append, Nat.zero_add] at hown4 ⊢; have B4 : Blk w4 w.heap.size 54 [.int .i64 0, .int .i64 0, .int .u64 0, .slice none 0 0] := (y4.block w.heap.size (by omega)).trans hB0; have q0 := B4.cell 0; have q1 := B4.cell 1; have q2 := B4.cell 2; have q3 := B4.cell 3; have f0 := B4.frozen 0; have f1 := B4.frozen 1; have f2 := B4.frozen 2; have f3 := B4.frozen 3; simp only [List.getElem?_cons_zero, List.getElem?_cons_succ] at q0 q1 q2 q3; have hlt4 := B4.lt; have x4 : Ext w w4 := Below.app ((Ext.refl w).alloc _) hg4 (by simp) hnil (by omega); clear hg4 hat4 B4 y4)
  refine bodyPost_ret (v := .agg #[.int .i64 num, .int .i64 2, .int .u64 0, .slice A4 (n - (s + k)) c4]) (by simp [results, Tryz.results39, go_sem, q0, q1, q2, q3]) rfl ⟨_, rfl, ?_, ?_⟩
  · refine own_base (base := w.heap.size + 1) ?_ (by omega)
    repeat (refine own_set ?_ (by dsimp only; omega) _)
    exact hown4
  · repeat (refine Ext.setCell ?_ (Nat.le_refl _) _)
    exact x4
end Go.Proofs.YtiildgoaiookhaaGreat

/- The law TlvParts. -/
namespace Go.Proofs.YtiildgoaiookhaaGreat
open Go.RowKit

theorem s_alone {f g : FV} (h : f.s = g.s) : aloneB f = aloneB g ∧ f.len = g.len ∧ fbytes f = fbytes g ∧ f.num = g.num ∧ f.wire = g.wire := by
  obtain ⟨a, b, c, _, d, _, e⟩ := f
  obtain ⟨a', b', c', _, d', _, e'⟩ := g
  simp only [FV.s, Prod.mk.injEq] at h
  obtain ⟨rfl, rfl, rfl, rfl, rfl⟩ := h
  exact ⟨rfl, rfl, rfl, rfl, rfl⟩
theorem s_falls {p q : Option FV} {f g : FV} (hp : p.map FV.s = q.map FV.s) (h : f.s = g.s) : fallsB p f = fallsB q g := by
  rcases p with _ | p <;> rcases q with _ | q
  · rfl
  · cases hp
  · cases hp
  · obtain ⟨_, _, _, h1, h2⟩ := s_alone h
    obtain ⟨_, _, _, h3, h4⟩ := s_alone (Option.some.inj hp)
    simp only [fallsB, risesB, h1, h2, h3, h4]
theorem s_scan : ∀ (l m : List FV) (p q : Option FV) (size : Nat), l.map FV.s = m.map FV.s → p.map FV.s = q.map FV.s → mayScan p size l = mayScan q size m
  | [], [], p, q, size, _, _ => by rw [mayScan_nil, mayScan_nil]
  | [], _ :: _, _, _, _, h, _ => by cases h
  | _ :: _, [], _, _, _, h, _ => by cases h
  | f :: l, g :: m, p, q, size, h, hp => by
    simp only [List.map_cons, List.cons.injEq] at h
    obtain ⟨h1, h2, h3, h4, h5⟩ := s_alone h.1
    have hs : fsize f = fsize g := by show (fbytes f).length = (fbytes g).length; rw [h3]
    rw [mayScan_cons, mayScan_cons, h1, s_falls hp h.1, h2, hs, s_scan l m (some f) (some g) _ h.2 (by simp [h.1])]
theorem s_may {l m : List FV} (h : l.map FV.s = m.map FV.s) : fmay l = fmay m := s_scan l m none none 0 h rfl
theorem s_rput : ∀ {l m : List FV}, l.map FV.s = m.map FV.s → rput l = rput m
  | [], [], _ => rfl
  | [], _ :: _, h => by cases h
  | _ :: _, [], h => by cases h
  | f :: l, g :: m, h => by
    simp only [List.map_cons, List.cons.injEq] at h
    have := s_rput h.2
    unfold rput at this ⊢
    rw [List.map_cons, List.map_cons, List.flatten_cons, List.flatten_cons, this, (s_alone h.1).2.2.1]

theorem scan_head {p : Option FV} {size : Nat} {f : FV} {r : List FV} (h : mayScan p size (f :: r) = 0) : aloneB f = true ∧ fallsB p f = false ∧ f.len ≤ 16384 ∧ mayScan (some f) (size + fsize f) r = 0 := by
  rw [mayScan_cons] at h
  by_cases h1 : aloneB f = false
  · rw [if_pos h1] at h; cases h
  · rw [if_neg h1] at h
    by_cases h2 : fallsB p f = true
    · rw [if_pos h2] at h; cases h
    · rw [if_neg h2] at h
      by_cases h3 : 16384 < f.len
      · rw [if_pos h3] at h; cases h
      · rw [if_neg h3] at h
        exact ⟨by simpa using h1, by simpa using h2, by omega, h⟩
theorem scan_mk {p : Option FV} {size : Nat} {f : FV} {r : List FV} (h1 : aloneB f = true) (h2 : fallsB p f = false) (h3 : f.len ≤ 16384) (h4 : mayScan (some f) (size + fsize f) r = 0) : mayScan p size (f :: r) = 0 := by
  rw [mayScan_cons, if_neg (by rw [h1]; simp), if_neg (by rw [h2]; simp), if_neg (by omega), h4]
theorem scan_less : ∀ (l : List FV) (p : Option FV) (size size' : Nat), size' ≤ size → mayScan p size l = 0 → mayScan p size' l = 0
  | [], p, size, size', hs, h => by
    rw [mayScan_nil] at h ⊢
    by_cases c : 16384 < size
    · rw [if_pos c] at h; cases h
    · rw [if_neg (by omega)]
  | f :: r, p, size, size', hs, h => by
    obtain ⟨h1, h2, h3, h4⟩ := scan_head h
    exact scan_mk h1 h2 h3 (scan_less r _ _ _ (by omega) h4)
theorem scan_fresh {p : Option FV} {size : Nat} {l : List FV} (h : mayScan p size l = 0) : fmay l = 0 := by
  have h0 := scan_less l p size 0 (Nat.zero_le _) h
  unfold fmay
  cases l with
  | nil => rw [mayScan_nil] at h0 ⊢; exact h0
  | cons f r =>
    obtain ⟨h1, _, h3, h4⟩ := scan_head h0
    exact scan_mk h1 rfl h3 h4
theorem scan_pre : ∀ (l m : List FV) (p : Option FV) (size : Nat), mayScan p size (l ++ m) = 0 → mayScan p size l = 0
  | [], m, p, size, h => by
    have := (mayScan_ok p size m h).2
    rw [mayScan_nil, if_neg (by omega)]
  | f :: r, m, p, size, h => by
    obtain ⟨h1, h2, h3, h4⟩ := scan_head h
    exact scan_mk h1 h2 h3 (scan_pre r m _ _ h4)
theorem scan_post : ∀ (l m : List FV) (p : Option FV) (size : Nat), mayScan p size (l ++ m) = 0 → fmay m = 0
  | [], _, _, _, h => scan_fresh h
  | _ :: r, m, _, _, h => scan_post r m _ _ (scan_head h).2.2.2
theorem falls_le {a f : FV} (h : fallsB (some a) f = false) : a.num ≤ f.num := by
  simp only [fallsB, Bool.not_eq_false'] at h
  unfold risesB at h
  by_cases e : f.num = a.num
  · omega
  · rw [if_neg e] at h
    have := of_decide_eq_true h
    omega
theorem scan_ge : ∀ (l : List FV) (a : FV) (size : Nat), mayScan (some a) size l = 0 → ∀ f ∈ l, a.num ≤ f.num
  | [], _, _, _ => by simp
  | g :: r, a, size, h => by
    obtain ⟨_, h2, _, h4⟩ := scan_head h
    have hg := falls_le h2
    intro f hf
    rcases List.mem_cons.1 hf with rfl | hf
    · exact hg
    · have := scan_ge r g _ h4 f hf; omega
theorem scan_parts (most : Int) : ∀ (l : List FV) (p : Option FV) (size : Nat), mayScan p size l = 0 → l.filter (loB most) ++ l.filter (fun f => !loB most f) = l
  | [], _, _, _ => rfl
  | f :: r, p, size, h => by
    obtain ⟨_, _, _, h4⟩ := scan_head h
    by_cases c : loB most f = true
    · simp only [List.filter_cons, c, Bool.not_true, if_true, List.cons_append]
      rw [if_neg (by simp), scan_parts most r _ _ h4]
    · have c' : loB most f = false := by simpa using c
      have hge := scan_ge r f _ h4
      have hno : ∀ g ∈ r, loB most g = false := by
        intro g hg
        have := hge g hg
        simp only [loB, decide_eq_false_iff_not] at c' ⊢
        omega
      have e1 : r.filter (loB most) = [] := by
        rw [List.filter_eq_nil_iff]
        intro g hg; rw [hno g hg]; simp
      have e2 : r.filter (fun f => !loB most f) = r := by
        rw [List.filter_eq_self]
        intro g hg; simp [hno g hg]
      simp only [List.filter_cons, c', Bool.not_false, if_true]
      rw [if_neg (by simp), e1, e2]; rfl
theorem parts_may (most : Int) {l : List FV} (h : fmay l = 0) : fmay (l.filter (loB most)) = 0 ∧ fmay (l.filter (fun f => !loB most f)) = 0 ∧ rput (l.filter (loB most)) ++ rput (l.filter (fun f => !loB most f)) = rput l := by
  have hp := scan_parts most l none 0 h
  have h' : fmay (l.filter (loB most) ++ l.filter (fun f => !loB most f)) = 0 := by rw [hp]; exact h
  refine ⟨scan_pre _ _ none 0 h', scan_post _ _ none 0 h', ?_⟩
  have : rput (l.filter (loB most) ++ l.filter (fun f => !loB most f)) = rput l := by rw [hp]
  rw [← this]
  unfold rput
  rw [List.map_append, List.flatten_append]
theorem filt_len (q : FV → Bool) (l : List FV) : (l.filter q).length + (l.filter (fun f => !q f)).length = l.length := by
  induction l with
  | nil => rfl
  | cons f r ih =>
    simp only [List.filter_cons]
    rcases q f <;> simp <;> omega
theorem s_num {P l : List FV} {q : FV → Bool} (h : P.map FV.s = (l.filter q).map FV.s) {R : Int → Prop} (hR : ∀ f, q f = true → R f.num) : ∀ i (hi : i < P.length), R P[i].num := by
  intro i hi
  have hl : (l.filter q).length = P.length := by have := congrArg List.length h; simpa using this.symm
  have := congrArg (fun m => m[i]?) h
  simp only [List.getElem?_map, List.getElem?_eq_getElem hi, List.getElem?_eq_getElem (show i < (l.filter q).length by omega), Option.map_some, Option.some.injEq] at this
  have hn := (s_alone this).2.2.2.1
  rw [hn]
  exact hR _ (List.mem_filter.1 (List.getElem_mem (show i < (l.filter q).length by omega))).2
end Go.Proofs.YtiildgoaiookhaaGreat

/- Rows taken from bytes: plain. -/
namespace Go.Proofs.YtiildgoaiookhaaGreat

/-- what tag.Skip's good answer says -/
theorem tskip_sound {l : List UInt8} {size : Nat} (h : tskip l = (size, 0)) : ∃ num wire n : Nat, ∃ b : List UInt8, TagMay num wire ∧ U64 n ∧ b.length ≤ 16384 ∧ (wire = 0 → b = []) ∧ (wire = 2 → n = 0) ∧ l.take size = fput num wire n b ∧ size = (fput num wire n b).length ∧ size ≤ l.length ∧ 0 < size := by
  rcases ttake_cases l with h1 | h1 | h1 | ⟨num, wire, s, h1, hm, h2, h3, h4⟩
  · rw [tskip_bad (by omega) h1] at h; cases h
  · rw [tskip_bad (by omega) h1] at h; cases h
  · rw [tskip_bad (by omega) h1] at h; cases h
  · rw [tskip_ok h1] at h
    obtain ⟨_, s1, _, s3⟩ := ttake_sound h1
    rcases vtake_cases (l.drop s) with ⟨v1, _⟩ | v1 | ⟨N, k, v1, hN, k1, k2, k3⟩
    · rw [v1] at h; simp at h
    · rw [v1] at h; simp at h
    · obtain ⟨u1, _, u3⟩ := vtake_sound v1
      rw [List.length_drop] at k3
      rw [v1] at h
      simp only [ne_eq, not_true_eq_false, if_false] at h
      have hvl : (vput N).length = k := by rw [u1, List.length_take, List.length_drop]; omega
      by_cases hw : wire = 0
      · rw [if_pos hw] at h
        injection h with h _
        subst hw
        have e : fput num 0 N [] = l.take s ++ (l.drop s).take k := by unfold fput; rw [if_pos rfl, s1, u1]
        refine ⟨num, 0, N, [], hm, hN, by simp, fun _ => rfl, fun h => by omega, ?_, ?_, by omega, by omega⟩
        · rw [e, ← h, List.take_add]
        · rw [e, List.length_append, List.length_take, List.length_take, List.length_drop]; omega
      · rw [if_neg hw] at h
        by_cases hb : 16384 < N
        · rw [if_pos hb] at h; cases h
        · rw [if_neg hb] at h
          by_cases hc : l.length < s + k + N
          · rw [if_pos hc] at h; cases h
          · rw [if_neg hc] at h
            injection h with h _
            have hw2 : wire = 2 := by rcases hm.2.2 with h | h; exact absurd h hw; exact h
            subst hw2
            have hbl : ((l.drop (s + k)).take N).length = N := by rw [List.length_take, List.length_drop]; omega
            have e : fput num 2 0 ((l.drop (s + k)).take N) = l.take s ++ (l.drop s).take k ++ (l.drop (s + k)).take N := by unfold fput; rw [if_neg (by omega), s1, hbl, u1]; simp
            refine ⟨num, 2, 0, (l.drop (s + k)).take N, hm, by unfold U64; omega, by omega, fun h => by omega, fun _ => rfl, ?_, ?_, by omega, by omega⟩
            · rw [e, ← h, List.take_add, List.take_add]
            · rw [e, List.length_append, List.length_append, List.length_take, List.length_take, List.length_drop, hbl]; omega

/-- a field that lies nowhere -/
def tfv (num wire n : Nat) (b : List UInt8) : FV := ⟨num, wire, n, none, b.length, b.length, b⟩
/-- the field of which l is all the bytes -/
def tfield (l : List UInt8) : FV :=
  if (ttake l).2.1 = 0 then tfv (ttake l).1 0 (vtake (l.drop (ttake l).2.2.1)).1 []
  else tfv (ttake l).1 (ttake l).2.1 0 (l.drop ((ttake l).2.2.1 + (vtake (l.drop (ttake l).2.2.1)).2.1))
theorem take_fput {num wire n : Nat} {b : List UInt8} (hm : TagMay num wire) (hn : U64 n) (hb : b.length ≤ 16384) :
    ∃ s k : Nat, ttake (fput num wire n b) = (num, wire, s, 0) ∧ vtake ((fput num wire n b).drop s) = (if wire = 0 then n else b.length, k, 0) ∧ s + k ≤ (fput num wire n b).length ∧ (wire ≠ 0 → (fput num wire n b).drop (s + k) = b ∧ (fput num wire n b).length = s + k + b.length) := by
  unfold fput
  by_cases hw : wire = 0
  · rw [if_pos hw, if_pos hw]
    refine ⟨(vput (8 * num + wire)).length, (vput n).length, ttake_put hm _, ?_, ?_, fun h => absurd hw h⟩
    · rw [List.drop_left]
      have := vtake_put hn []
      rwa [List.append_nil] at this
    · rw [List.length_append]; omega
  · rw [if_neg hw, if_neg hw]
    refine ⟨(vput (8 * num + wire)).length, (vput b.length).length, ttake_put hm _, ?_, ?_, fun _ => ⟨?_, ?_⟩⟩
    · rw [List.drop_left]
      exact vtake_put (by unfold U64; omega) b
    · rw [List.length_append, List.length_append]; omega
    · rw [← List.append_assoc, List.drop_left' (by simp)]
    · rw [List.length_append, List.length_append]; omega
theorem tfield_put {num wire n : Nat} {b : List UInt8} (hm : TagMay num wire) (hn : U64 n) (hb : b.length ≤ 16384) (h0 : wire = 0 → b = []) (h2 : wire = 2 → n = 0) : tfield (fput num wire n b) = tfv num wire n b := by
  obtain ⟨s, k, e1, e2, _, e4⟩ := take_fput hm hn hb
  unfold tfield
  rw [e1]
  dsimp only
  rw [e2]
  dsimp only
  by_cases hw : wire = 0
  · rw [if_pos hw, if_pos hw, h0 hw, hw]
  · have hw2 : wire = 2 := by rcases hm.2.2 with h | h; exact absurd h hw; exact h
    rw [if_neg hw, (e4 hw).1, h2 hw2]
/-- the row that bytes are, behind a field, and an error's number -/
def trow (prev : Option FV) (l : List UInt8) : List FV × Nat :=
  if _hl : l = [] then ([], 0)
  else if (tskip l).2 ≠ 0 then ([], (tskip l).2)
  else if _h0 : (tskip l).1 = 0 then ([], 0)
  else if fallsB prev (tfield (l.take (tskip l).1)) = true then ([], 5)
  else if (trow (some (tfield (l.take (tskip l).1))) (l.drop (tskip l).1)).2 ≠ 0 then ([], (trow (some (tfield (l.take (tskip l).1))) (l.drop (tskip l).1)).2)
  else (tfield (l.take (tskip l).1) :: (trow (some (tfield (l.take (tskip l).1))) (l.drop (tskip l).1)).1, 0)
termination_by l.length
decreasing_by
  all_goals
    have : l.length ≠ 0 := fun h => _hl (List.eq_nil_of_length_eq_zero h)
    rw [List.length_drop]; omega
/-- a row laid ahead of what is still taken -/
def tjoin (pre : List FV) (r : List FV × Nat) : List FV × Nat := if r.2 ≠ 0 then ([], r.2) else (pre ++ r.1, 0)
theorem trow_nil (p : Option FV) : trow p [] = ([], 0) := by rw [trow]; simp
theorem trow_bad {p : Option FV} {l : List UInt8} (hl : l ≠ []) {e : Nat} (he : e ≠ 0) (h : (tskip l).2 = e) : trow p l = ([], e) := by
  rw [trow, dif_neg hl, h, if_pos he]
theorem trow_falls {p : Option FV} {l : List UInt8} (hl : l ≠ []) {size : Nat} (h0 : 0 < size) (h : tskip l = (size, 0)) (hf : fallsB p (tfield (l.take size)) = true) : trow p l = ([], 5) := by
  rw [trow, dif_neg hl, h, if_neg (by simp), dif_neg (by simp; omega), if_pos hf]
theorem trow_next {p : Option FV} {l : List UInt8} (hl : l ≠ []) {size : Nat} (h0 : 0 < size) (h : tskip l = (size, 0)) (hf : fallsB p (tfield (l.take size)) = false) :
    trow p l = tjoin [tfield (l.take size)] (trow (some (tfield (l.take size))) (l.drop size)) := by
  rw [trow, dif_neg hl, h, if_neg (by simp), dif_neg (by simp; omega), if_neg (by rw [hf]; simp)]
  unfold tjoin
  rfl
theorem tjoin_join (a b : List FV) (r : List FV × Nat) : tjoin a (tjoin b r) = tjoin (a ++ b) r := by
  unfold tjoin
  by_cases h : r.2 ≠ 0
  · simp [h]
  · simp [h]
end Go.Proofs.YtiildgoaiookhaaGreat

/- tlv.field at the bytes of any field. -/
namespace Go.Proofs.YtiildgoaiookhaaGreat
open Go.RowKit

theorem tlv_field (A : Option Addr) (m c : Nat) (num wire n : Nat) (b : List UInt8) (w : World) (hb : Bs w A m (fput num wire n b)) (hm : m ≤ 100000) (hmc : m ≤ c) (ht : TagMay num wire) (hn : U64 n) (hl : b.length ≤ 16384) (h0 : wire = 0 → b = []) (h2 : wire = 2 → n = 0) :
    Calls Tryz.prog 39 #[.slice A m c] w fun e w' => ∃ g : FV, e = .returned g.val ∧ OwnF w' w.heap.size g ∧ g.s = (tfv num wire n b).s ∧ Ext w w' := by
  obtain ⟨s, k, e1, e2, e3, e4⟩ := take_fput (b := b) ht hn hl
  have hlen := hb.len
  by_cases hw : wire = 0
  · subst hw
    rw [if_pos rfl] at e2
    refine (tlv_field_n A m c _ num s n k w hb hm hmc (by omega) e1 e2).mono ?_
    rintro e w' ⟨rfl, x⟩
    have hbn := h0 rfl
    subst hbn
    exact ⟨⟨num, 0, n, none, 0, 0, []⟩, rfl, ⟨World.ownsRow_nil _ _ _ _, hn⟩, rfl, x⟩
  · have hw2 : wire = 2 := by rcases ht.2.2 with h | h; exact absurd h hw; exact h
    subst hw2
    rw [if_neg hw] at e2
    obtain ⟨e5, e6⟩ := e4 hw
    refine (tlv_field_b A m c _ num s b.length k w hb hm hmc (by omega) e1 e2).mono ?_
    rintro e w' ⟨v, rfl, ho, x⟩
    rw [e5] at ho
    have hml : m - (s + k) = b.length := by omega
    rw [hml] at ho
    obtain ⟨A', c', rfl, _⟩ := own_form ho
    have hn0 := h2 rfl
    subst hn0
    exact ⟨⟨num, 2, 0, A', b.length, c', b⟩, rfl, ⟨ho, hn⟩, rfl, x⟩
end Go.Proofs.YtiildgoaiookhaaGreat

/- The walk of the closure in tlv.Take. -/
namespace Go.Proofs.YtiildgoaiookhaaGreat
open Go.RowKit

set_option maxRecDepth 100000 in
set_option maxHeartbeats 800000 in
theorem tlv_take_may0 (f : FV) (B : Nat) (A : Option Addr) (c : Nat) (w : World) (hc : w.cell? ⟨B, 0, none⟩ = some (.slice A 0 c)) :
    Calls Tryz.prog 36 #[f.val, .pointer (some ⟨B, 0, none⟩)] w fun e w' => e = .returned (.bool true) ∧ Ext w w' := by
  obtain ⟨num, wire, fn, fA, flen, fcap, fb⟩ := f
  unfold FV.val
  dsimp only
  have hlt := World.block_lt_of_cell? _ _ hc
  have hcc := ((Ext.refl w).alloc (.cells #[.int .i64 num, .int .i64 wire, .int .u64 fn, .slice fA flen fcap] 54)).cell hc
  clear hc
  go_enter Tryz.func36, Tryz.ntmps36
  go_wp2_with fail
  go_region
  go_wp2
  go_ret
  exact ⟨rfl, ((Ext.refl w).alloc _).drew⟩

set_option maxRecDepth 100000 in
set_option maxHeartbeats 800000 in
theorem tlv_take_may1 (f : FV) (B : Nat) (A : Option Addr) (n i c : Nat) (ms : List FV) (g : FV) (w : World) (hc : w.cell? ⟨B, 0, none⟩ = some (.slice A n c)) (hf : Fs w A n ms) (hn : n = i + 1) (hi : i < 100000) (hg : ms[i]? = some g) :
    Calls Tryz.prog 36 #[f.val, .pointer (some ⟨B, 0, none⟩)] w fun e w' => e = .returned (.bool (risesB g f)) ∧ Ext w w' := by
  have HR := Lib.hid (fun w => tlv_rises g f w)
  obtain ⟨b, off, rfl, d0, d1, d2, d3⟩ := hf.at_ (show i < n by omega)
  have hgi : ms[i]'(by rw [hf.len]; omega) = g := by
    have := List.getElem?_eq_getElem (l := ms) (i := i) (by rw [hf.len]; omega)
    rw [this] at hg; exact Option.some.inj hg
  simp only [hgi] at d0 d1 d2 d3
  clear hgi hg hf
  generalize risesB g f = rr at HR
  obtain ⟨num, wire, fn, fA, flen, fcap, fb⟩ := f
  obtain ⟨gnum, gwire, gn, gA, glen, gcap, gb⟩ := g
  unfold FV.val at HR ⊢
  dsimp only at HR ⊢ d0 d1 d2 d3
  have hlt := World.block_lt_of_cell? _ _ hc
  have xa : Ext w (w.alloc (.cells #[.int .i64 num, .int .i64 wire, .int .u64 fn, .slice fA flen fcap] 54)) := (Ext.refl w).alloc _
  have hB := Blk.new w 54 [.int .i64 num, .int .i64 wire, .int .u64 fn, .slice fA flen fcap]
  have hcc := xa.cell hc
  have p0 := xa.cell d0
  have p1 := xa.cell d1
  have p2 := xa.cell d2
  have p3 := xa.cell d3
  have e0 := hB.cell 0
  have e1 := hB.cell 1
  have e2 := hB.cell 2
  have e3 := hB.cell 3
  simp only [List.getElem?_cons_zero, List.getElem?_cons_succ] at e0 e1 e2 e3
  subst hn
  have hw1 : IntKind.i64.wrap (i : Int) = i := IntWalk.i64_in _ (by omega)
  have hw2 : IntKind.i64.wrap ((i : Int) + 1) = (i : Int) + 1 := IntWalk.i64_in _ (by omega)
  have hne : ((i : Int) + 1 == 0) = false := by simp; omega
  have hne' : ¬ ((i : Int) + 1 = 0) := by omega
  have hii : (i : Int) < (i : Int) + 1 := by omega
  have hi0 : (0 : Int) ≤ i := by omega
  clear hc d0 d1 d2 d3 hB
  go_enter Tryz.func36, Tryz.ntmps36
  go_wp2_with fail
  go_region_held3 (fun w' => w'.cell? ⟨B, 0, none⟩ = some (.slice (some ⟨b, off, none⟩) (i + 1) c) ∧ w'.cell? ⟨b, off + i * 4, none⟩ = some (.int .i64 gnum) ∧ w'.cell? ⟨b, off + i * 4 + 1, none⟩ = some (.int .i64 gwire) ∧ w'.cell? ⟨b, off + i * 4 + 2, none⟩ = some (.int .u64 gn) ∧ w'.cell? ⟨b, off + i * 4 + 3, none⟩ = some (.slice gA glen gcap) ∧
      w'.cell? ⟨w.heap.size, 0, none⟩ = some (.int .i64 num) ∧ w'.cell? ⟨w.heap.size, 1, none⟩ = some (.int .i64 wire) ∧ w'.cell? ⟨w.heap.size, 2, none⟩ = some (.int .u64 fn) ∧ w'.cell? ⟨w.heap.size, 3, none⟩ = some (.slice fA flen fcap))
    (first
      | go_keep
      | (exact ⟨y2.cell hcc, y2.cell p0, y2.cell p1, y2.cell p2, y2.cell p3, y2.cell e0, y2.cell e1, y2.cell e2, y2.cell e3⟩))
    (first
      | (go_at_call 37; refine (HR.out _).mono ?_; rintro e w2 ⟨rfl, y2⟩))
  go_wp2
  go_ret
  exact ⟨rfl, xa.drew.trans y2⟩
end Go.Proofs.YtiildgoaiookhaaGreat

/- The walk of tlv.Take. -/
namespace Go.Proofs.YtiildgoaiookhaaGreat
open Go.RowKit

theorem tlv_take_may (f : FV) (B : Nat) (A : Option Addr) (n c : Nat) (ms : List FV) (w : World) (hc : w.cell? ⟨B, 0, none⟩ = some (.slice A n c)) (hf : Fs w A n ms) (hn : n ≤ 100000) :
    Calls Tryz.prog 36 #[f.val, .pointer (some ⟨B, 0, none⟩)] w fun e w' => e = .returned (.bool (!fallsB ms.getLast? f)) ∧ Ext w w' := by
  have hl := hf.len
  rcases Nat.eq_zero_or_pos n with h0 | hp
  · subst h0
    have : ms = [] := List.eq_nil_of_length_eq_zero hl
    subst this
    exact tlv_take_may0 f B A c w hc
  · obtain ⟨i, rfl⟩ : ∃ i, n = i + 1 := ⟨n - 1, by omega⟩
    have hg : ms[i]? = some (ms[i]'(by omega)) := List.getElem?_eq_getElem _
    refine (tlv_take_may1 f B A (i + 1) i c ms _ w hc hf rfl (by omega) hg).mono ?_
    rintro e w' ⟨rfl, x⟩
    refine ⟨?_, x⟩
    have hla : ms.getLast? = some (ms[i]'(by omega)) := by rw [List.getLast?_eq_getElem?]; exact (congrArg (fun k => ms[k]?) (show ms.length - 1 = i by omega)).trans hg
    rw [hla]
    simp [fallsB]

theorem trow_clean (p : Option FV) (l : List UInt8) (h : (trow p l).2 ≠ 0) : (trow p l).1 = [] := by
  rw [trow] at h ⊢
  split
  · rfl
  · split
    · rfl
    · split
      · rfl
      · split
        · rfl
        · split
          · rfl
          · rename_i a1 a2 a3 a4 a5
            rw [dif_neg a1, if_neg a2, dif_neg a3, if_neg a4, if_neg a5] at h
            exact absurd rfl h
theorem tjoin_nil (p : Option FV) (l : List UInt8) : tjoin [] (trow p l) = trow p l := by
  unfold tjoin
  by_cases h : (trow p l).2 ≠ 0
  · rw [if_pos h, ← trow_clean p l h]
  · rw [if_neg h, List.nil_append]
    have : (trow p l).2 = 0 := by simpa using h
    rw [← this]

set_option maxRecDepth 100000 in
set_option maxHeartbeats 1600000 in
theorem tlv_Take (A : Option Addr) (n c : Nat) (l : List UInt8) (w : World) (hb : Bs w A n l) (hn : n ≤ 16384) (hnc : n ≤ c) :
    Calls Tryz.prog 12 #[.slice A n c] w fun e w' => ∃ v ms, e = .returned (.tuple #[v, .int .i64 (trow none l).2]) ∧ w'.ownsRow (w.heap.size + 1) 54 4 v ms.length (rowOf ms) ∧ (∀ f ∈ ms, OwnF w' (w.heap.size + 1) f) ∧ ms.map FV.s = (trow none l).1.map FV.s ∧ Ext w w' := by
  have hlen := hb.len
  have hcb : w.heap.size < (w.alloc (.cells #[.slice none 0 0] 30)).heap.size := by simp
  have hn1 : ((16384 : Int) < n) = False := by simp; omega
  have hn2 : ¬ ((16384 : Int) < n) := by omega
  go_enter Tryz.func12, Tryz.ntmps12
  go_wp2_with fail
  go_loopw [6] (fun i wr => ∃ (at_ : Nat) (pre ms : List FV) (A1 : Option Addr) (c1 : Nat), i = .int .i64 at_ ∧ at_ ≤ n ∧ Blk wr w.heap.size 30 [.slice A1 ms.length c1] ∧ wr.ownsRow (w.heap.size + 1) 54 4 (.slice A1 ms.length c1) ms.length (rowOf ms) ∧
      (∀ f ∈ ms, OwnF wr (w.heap.size + 1) f) ∧ ms.map FV.s = pre.map FV.s ∧ trow none l = tjoin pre (trow pre.getLast? (l.drop at_)) ∧ ms.length ≤ at_ ∧ Ext w wr) (fun i _ => n - (intOf i).toNat)
  case atStart =>
    refine ⟨0, [], [], none, 0, rfl, by omega, Blk.new w 30 [.slice none 0 0], World.ownsRow_nil _ _ _ _, by simp, rfl, ?_, by simp, (Ext.refl w).alloc _⟩
    exact (tjoin_nil none l).symm
  case round =>
    obtain ⟨at_, pre, ms, A1, c1, rfl, hat, hblk, hown, hof, hs, htr, hml, hx⟩ := hrel
    have hcell := hblk.cell 0
    simp only [List.getElem?_cons_zero] at hcell
    have HO := Lib.hid hof; clear hof
    have HS := Lib.hid hs; clear hs
    by_cases hjn : at_ < n
    · have hne : l.drop at_ ≠ [] := by
        intro h
        have := congrArg List.length h
        rw [List.length_drop] at this
        simp at this; omega
      have hjn' : (at_ : Int) < n := by omega
      obtain ⟨A', c', hc', hsl, hb'⟩ := cut_bytes (P := Tryz.prog) bytesT A hat hnc (at_ : Int) rfl
      have C1 := Lib.hid (tag_Skip A' (n - at_) c' (l.drop at_) wr (hb' _ _ (hb.ext hx)) (by omega) (by omega))
      rcases hsk : tskip (l.drop at_) with ⟨size, er⟩
      rw [hsk] at C1
      by_cases her : er ≠ 0
      · have hfin : trow none l = ([], er) := by rw [htr, trow_bad hne her (by rw [hsk])]; simp [tjoin, her]
        have HF := Lib.hid hfin
        have her' : ((er : Int) != 0) = true := bne_t (by omega)
        clear hfin htr hsk hb hb' hne
        unfold sq at C1
        go_wp2_with fail
        refine C1.out.mono ?_
        rintro e w1 ⟨rfl, x1⟩
        go_wp2
        go_ret2
        exact ⟨_, [], by rw [HF.out]; rfl, World.ownsRow_nil _ _ _ _, by simp, by rw [HF.out], hx.trans x1⟩
      · obtain rfl : er = 0 := by omega
        obtain ⟨num, wire, fn, b, q1, q2, q3, q4, q5, q6, q7, q8, q9⟩ := tskip_sound hsk
        rw [List.length_drop] at q8
        have hsz : at_ + size ≤ n := by omega
        have hszI : (at_ : Int) + (size : Int) ≤ n := by omega
        have hszJ : (at_ : Int) ≤ (at_ : Int) + (size : Int) := by omega
        obtain ⟨A2, c2, hc2, hsl2, hb2⟩ := cut_bytes2 (P := Tryz.prog) bytesT A (show at_ ≤ at_ + size by omega) (show at_ + size ≤ n by omega) hnc (at_ : Int) ((at_ : Int) + (size : Int)) rfl (by omega)
        have hb3 := fun (w' : World) (h : Bs w' A n l) => hb2 w' l h
        simp only [Nat.add_sub_cancel_left, q6] at hb3
        rw [Nat.add_sub_cancel_left] at hsl2 hc2
        have C2 := Lib.hid (fun (w' : World) (h : Ext w w') => tlv_field A2 size c2 num wire fn b w' (hb3 _ (hb.ext h)) (by omega) (by omega) q1 q2 q3 q4 q5)
        have hfld : tfield ((l.drop at_).take size) = tfv num wire fn b := by rw [q6]; exact tfield_put q1 q2 q3 q4 q5
        have hwr : IntKind.i64.wrap ((at_ : Int) + (size : Int)) = (at_ : Int) + (size : Int) := IntWalk.i64_in _ (by omega)
        have HFld := Lib.hid hfld
        have HTr := Lib.hid htr
        have HNe := Lib.hid hne
        have HSk := Lib.hid hsk
        have hszw := hx.size
        clear hfld htr hne hsk hb hb' hb2 hb3 q1 q2 q3 q4 q5 q6 q7 q8 hc2 hc' her
        unfold sq at C1
        go_wp2_with fail
        refine C1.out.mono ?_
        rintro e w1 ⟨rfl, x1⟩
        go_wp2_with fail
        refine (C2.out _ (hx.trans x1)).mono ?_
        rintro e w2 ⟨⟨gnum, gwire, gn, gA, glen, gcap, gb⟩, rfl, hgo, hgs, x2⟩
        unfold FV.val
        have x3 : Ext wr (w2.alloc (.cells #[.int .i64 gnum, .int .i64 gwire, .int .u64 gn, .slice gA glen gcap] 54)) := ((x1.trans x2).alloc _)
        have hB3 := Blk.new w2 54 [.int .i64 gnum, .int .i64 gwire, .int .u64 gn, .slice gA glen gcap]
        have hown3 := own_ext hown x3
        have HM := Lib.hid (tlv_take_may ⟨gnum, gwire, gn, gA, glen, gcap, gb⟩ w.heap.size A1 ms.length c1 ms _ (x3.cell hcell) ⟨Rd.of_own hown3, fun f hf => (show OwnF _ _ f from ⟨own_ext (HO.out f hf).1 x3, (HO.out f hf).2⟩).ok⟩ (by omega))
        generalize hfb : fallsB ms.getLast? ⟨gnum, gwire, gn, gA, glen, gcap, gb⟩ = fb at HM
        unfold FV.val at HM
        dsimp only at HM
        have hfe : fallsB pre.getLast? (tfv num wire fn b) = fb := by
          rw [← hfb]
          exact (s_falls (by rw [← List.getLast?_map, ← List.getLast?_map, HS.out]) hgs).symm
        rw [← HFld.out] at hfe
        clear hfb
        rcases fb with _ | _
        · have Hnx := Lib.hid (HTr.out.trans (congrArg (tjoin pre) (trow_next HNe.out q9 HSk.out hfe)))
          clear hfe
          have HG := Lib.hid hgo; clear hgo
          have HGS := Lib.hid hgs; clear hgs
          have hbl3 := hblk.ext x3
          go_wp2_with (first
            | (go_at_call 36; refine HM.out.mono ?_; rintro e w4 ⟨rfl, x4⟩; have hB4 := hB3.ext x4; have e0 := hB4.cell 0; have e1 := hB4.cell 1; have e2 := hB4.cell 2; have e3 := hB4.cell 3; have hbl4 := hbl3.ext x4; have hcell4 := hbl4.cell 0; simp only [List.getElem?_cons_zero, List.getElem?_cons_succ] at e0 e1 e2 e3 hcell4)
            | (at_builtin; refine wpList_app fieldsT (by omega) _ rfl rfl rfl ((own_ext hown3 x4).alloc (.cells #[.int .i64 gnum, .int .i64 gwire, .int .u64 gn, .slice gA glen gcap] 54)) rfl (rd_at4 _ (.int .i64 gnum) (.int .i64 gwire) (.int .u64 gn) (.slice gA glen gcap) _ _ (by simp)) (fcells_one _ _ _ _ _ _) (by unfold maxLen; omega) (by omega) (by have := x3.size; have := x4.size; simp at *; omega) ?_; intro v5 w5 hown5 hg5' hat5; clear hat5; obtain ⟨A5, c5, rfl, _⟩ := own_form hown5; have hg5 : World.grownBy (w4.alloc (.cells #[.int .i64 gnum, .int .i64 gwire, .int .u64 gn, .slice gA glen gcap] 54)) w5 (Value.slice A1 ms.length c1).ownBlock := hg5'; clear hg5'; have hbl5 : Blk w5 w.heap.size 30 [.slice A1 ms.length c1] := (hbl4.alloc _).grown hg5 (by intro h; have := (hown.lt _ h.symm).1; omega); have hcell5 := hbl5.cell 0; have hfz5 := hbl5.frozen 0; have hlt5 := hbl5.lt; simp only [List.getElem?_cons_zero] at hcell5))
          have hK4 := (own_ext hown3 x4).alloc (.cells #[.int .i64 gnum, .int .i64 gwire, .int .u64 gn, .slice gA glen gcap] 54)
          have hs1 := x1.size
          have hltr := hblk.lt
          have hsz4 : w.heap.size ≤ (w4.alloc (.cells #[.int .i64 gnum, .int .i64 gwire, .int .u64 gn, .slice gA glen gcap] 54)).heap.size := (((hx.trans x3).trans x4).alloc _).size
          go_roundw
          case rel =>
            refine ⟨at_ + size, pre ++ [tfield ((l.drop at_).take size)], ms ++ [⟨gnum, gwire, gn, gA, glen, gcap, gb⟩], A5, c5, val_int (by omega), hsz, ?_, ?_, ?_, ?_, ?_, ?_, ?_⟩
            · rw [List.length_append, List.length_singleton]
              exact hbl5.set_ 0 (.slice A5 (ms.length + 1) c5)
            · rw [List.length_append, List.length_singleton]
              exact own_set (own_to hown5 (Nat.le_refl _) rfl (by rw [rowOf_append, rowOf_one]; rfl)) (by dsimp only; omega) _
            · intro f hf
              rcases List.mem_append.1 hf with hf | hf
              · have h1 := (own_ext (own_ext (HO.out f hf).1 x3) x4).alloc (.cells #[.int .i64 gnum, .int .i64 gwire, .int .u64 gn, .slice gA glen gcap] 54)
                exact ⟨own_set (h1.kept hg5 (own_apart h1 hK4 (by decide))) (by dsimp only; omega) _, (HO.out f hf).2⟩
              · simp only [List.mem_singleton] at hf
                subst hf
                have h1 := (own_ext ((own_base (base' := w.heap.size + 1) HG.out.1 (by omega)).alloc (.cells #[.int .i64 gnum, .int .i64 gwire, .int .u64 gn, .slice gA glen gcap] 54)) x4).alloc (.cells #[.int .i64 gnum, .int .i64 gwire, .int .u64 gn, .slice gA glen gcap] 54)
                exact ⟨own_set (h1.kept hg5 (own_apart h1 hK4 (by decide))) (by dsimp only; omega) _, HG.out.2⟩
            · rw [List.map_append, List.map_append, HS.out, HFld.out, List.map_singleton, List.map_singleton, HGS.out]
            · have h := Hnx.out
              rw [tjoin_join, List.drop_drop] at h
              rw [List.getLast?_concat]
              exact h
            · rw [List.length_append, List.length_singleton]; omega
            · exact (Below.app (((hx.trans x3).trans x4).alloc _) hg5 hsz4 hK4 (by omega)).setCell (Nat.le_refl _) _
          case measure => simp [intOf]; omega
        · have Hnx := Lib.hid (HTr.out.trans (congrArg (tjoin pre) (trow_falls HNe.out q9 HSk.out hfe)))
          clear hfe
          go_wp2_with (go_at_call 36; refine HM.out.mono ?_; rintro e w4 ⟨rfl, x4⟩)
          go_ret2
          exact ⟨_, [], by rw [Hnx.out]; rfl, World.ownsRow_nil _ _ _ _, by simp, by rw [Hnx.out]; rfl, (hx.trans x3).trans x4⟩
    · obtain rfl : n = at_ := by omega
      have htr2 := htr
      rw [List.drop_of_length_le (by omega), trow_nil] at htr2
      unfold tjoin at htr2
      simp at htr2
      have HT := Lib.hid htr2
      clear htr htr2
      go_wp2
      go_ret2
      exact ⟨_, ms, by rw [HT.out]; rfl, hown, HO.out, by rw [HT.out]; exact HS.out, hx⟩
end Go.Proofs.YtiildgoaiookhaaGreat

/- tlv.Take on too many bytes; the row taken from the bytes of a row that may be. -/
namespace Go.Proofs.YtiildgoaiookhaaGreat
open Go.RowKit

set_option maxRecDepth 100000 in
set_option maxHeartbeats 400000 in
theorem tlv_Take_big (A : Option Addr) (n c : Nat) (w : World) (hn : 16384 < n) :
    Calls Tryz.prog 12 #[.slice A n c] w fun e w' => e = .returned (.tuple #[.slice none 0 0, .int .i64 4]) ∧ Ext w w' := by
  have hn1 : (16384 : Int) < n := by omega
  go_enter Tryz.func12, Tryz.ntmps12
  go_wp2
  go_ret2
  exact ⟨rfl, Ext.refl w⟩

/-- tag.Skip on a field's bytes and more -/
theorem tskip_fput {num wire n : Nat} {b : List UInt8} (hm : TagMay num wire) (hn : U64 n) (hb : b.length ≤ 16384) (L : List UInt8) : tskip (fput num wire n b ++ L) = ((fput num wire n b).length, 0) := by
  have hu : U64 b.length := by unfold U64; omega
  unfold tskip fput
  by_cases hw : wire = 0
  · subst hw
    rw [if_pos rfl, List.append_assoc, ttake_put hm, List.drop_left, vtake_put hn]
    simp
  · rw [if_neg hw, List.append_assoc, List.append_assoc, ttake_put hm, List.drop_left, vtake_put hu]
    dsimp only
    rw [if_neg (by simp), if_neg (by simp), if_neg hw, if_neg (by omega), if_neg (by simp; omega)]
    simp; omega

/-- what a row that may be is laid down as is taken as that row -/
theorem trow_put : ∀ (l : List FV) (p q : Option FV) (size : Nat), mayScan p size l = 0 → (∀ f ∈ l, U64 f.n ∧ f.len = f.b.length) → p.map FV.s = q.map FV.s →
    (trow q (rput l)).2 = 0 ∧ (trow q (rput l)).1.map FV.s = l.map FV.s
  | [], p, q, size, _, _, _ => by
    have : rput [] = [] := rfl
    rw [this, trow_nil]
    exact ⟨rfl, rfl⟩
  | f :: r, p, q, size, h, hk, hp => by
    obtain ⟨h1, h2, h3, h4⟩ := scan_head h
    obtain ⟨hu, hfl⟩ := hk f (by simp)
    obtain ⟨num, wire, e1, e2, hm⟩ := alone_tag h1
    have hr : rput (f :: r) = fput num wire f.n f.b ++ rput r := by
      unfold rput
      rw [List.map_cons, List.flatten_cons]
      show fput f.num.toNat f.wire.toNat f.n f.b ++ _ = _
      rw [e1, e2]; rfl
    have hb0 : wire = 0 → f.b = [] := by
      intro hw
      subst hw
      unfold aloneB at h1
      have : f.len = 0 := by
        by_cases a : f.num < 1
        · simp [a] at h1
        · by_cases b : 1000 < f.num
          · simp [a, b] at h1
          · simp [a, b, e2] at h1; exact h1
      exact List.eq_nil_of_length_eq_zero (by omega)
    have hn2 : wire = 2 → f.n = 0 := by
      intro hw
      subst hw
      unfold aloneB at h1
      by_cases a : f.num < 1
      · simp [a] at h1
      · by_cases b : 1000 < f.num
        · simp [a, b] at h1
        · simp [a, b, e2] at h1; exact h1
    have hs := tskip_fput hm hu (show f.b.length ≤ 16384 by omega) (rput r)
    have hpos : 0 < (fput num wire f.n f.b).length := by
      unfold fput; rw [List.length_append, tag_len hm]; split <;> omega
    have hne : rput (f :: r) ≠ [] := by
      intro h0; rw [hr] at h0
      have := congrArg List.length h0
      rw [List.length_append] at this; simp at this; rw [this.1] at hpos; simp at hpos
    have ht : tfield ((rput (f :: r)).take (fput num wire f.n f.b).length) = tfv num wire f.n f.b := by
      rw [hr, List.take_left]; exact tfield_put hm hu (by omega) hb0 hn2
    have hfs : (tfv num wire f.n f.b).s = f.s := by unfold tfv FV.s; rw [e1, e2, hfl]
    have hfa : fallsB q (tfield ((rput (f :: r)).take (fput num wire f.n f.b).length)) = false := by
      rw [ht, ← h2]; exact (s_falls hp hfs.symm).symm
    rw [hr] at hne hfa ht
    rw [hr, trow_next hne hpos hs hfa, List.drop_left, ht]
    obtain ⟨i1, i2⟩ := trow_put r (some f) (some (tfv num wire f.n f.b)) _ h4 (fun g hg => hk g (by simp [hg])) (by simp [hfs])
    unfold tjoin
    rw [if_neg (by rw [i1]; simp)]
    refine ⟨rfl, ?_⟩
    rw [List.map_append, i2, List.map_singleton, hfs]; rfl

theorem tfv_alone {num wire n : Nat} {b : List UInt8} (hm : TagMay num wire) (h0 : wire = 0 → b = []) (h2 : wire = 2 → n = 0) : aloneB (tfv num wire n b) = true := by
  obtain ⟨m1, m2, m3⟩ := hm
  unfold aloneB tfv
  dsimp only
  rw [if_neg (by omega), if_neg (by omega)]
  rcases m3 with rfl | rfl
  · rw [h0 rfl]; rfl
  · rw [h2 rfl]; rfl
/-- bytes that are a row are those that it is laid down as, and the row may be -/
theorem trow_sound : ∀ (k : Nat) (l : List UInt8) (q : Option FV) (size : Nat), l.length ≤ k → (trow q l).2 = 0 → size + l.length ≤ 16384 → rput (trow q l).1 = l ∧ mayScan q size (trow q l).1 = 0 := by
  intro k
  induction k with
  | zero =>
    intro l q size hk h hs
    have : l = [] := List.eq_nil_of_length_eq_zero (by omega)
    subst this
    rw [trow_nil]
    exact ⟨rfl, by rw [mayScan_nil, if_neg (by omega)]⟩
  | succ k ih =>
    intro l q size hk h hs
    by_cases hl : l = []
    · subst hl
      rw [trow_nil]
      exact ⟨rfl, by rw [mayScan_nil, if_neg (by omega)]⟩
    · rcases hsk : tskip l with ⟨z, er⟩
      by_cases her : er ≠ 0
      · rw [trow_bad hl her (by rw [hsk])] at h; exact absurd h her
      · obtain rfl : er = 0 := by omega
        obtain ⟨num, wire, n, b, q1, q2, q3, q4, q5, q6, q7, q8, q9⟩ := tskip_sound hsk
        have ht : tfield (l.take z) = tfv num wire n b := by rw [q6]; exact tfield_put q1 q2 q3 q4 q5
        rcases hf : fallsB q (tfield (l.take z)) with _ | _
        · rw [trow_next hl q9 hsk hf, ht] at h ⊢
          rw [ht] at hf
          have hin : (trow (some (tfv num wire n b)) (l.drop z)).2 = 0 := by
            unfold tjoin at h
            by_cases hc : (trow (some (tfv num wire n b)) (l.drop z)).2 ≠ 0
            · rw [if_pos hc] at h; exact h
            · simpa using hc
          have hdl : (l.drop z).length = l.length - z := List.length_drop
          obtain ⟨i1, i2⟩ := ih (l.drop z) (some (tfv num wire n b)) (size + z) (by omega) hin (by omega)
          unfold tjoin
          rw [if_neg (by rw [hin]; simp)]
          have hfb : fbytes (tfv num wire n b) = fput num wire n b := by unfold fbytes tfv; simp
          refine ⟨?_, ?_⟩
          · show rput (tfv num wire n b :: (trow (some (tfv num wire n b)) (l.drop z)).1) = l
            unfold rput at i1 ⊢
            rw [List.map_cons, List.flatten_cons, i1, hfb, ← q6, List.take_append_drop]
          · have hfz : fsize (tfv num wire n b) = z := by show (fbytes _).length = z; rw [hfb]; exact q7.symm
            exact scan_mk (tfv_alone q1 q4 q5) hf q3 (by rw [hfz]; exact i2)
        · rw [trow_falls hl q9 hsk hf] at h; cases h
end Go.Proofs.YtiildgoaiookhaaGreat

/- A row of bytes that is cut. -/
namespace Go.Proofs.YtiildgoaiookhaaGreat

theorem tskip_cut {num wire n : Nat} {b : List UInt8} (hm : TagMay num wire) (hn : U64 n) (hb : b.length ≤ 16384) {t : Nat} (ht : t < (fput num wire n b).length) : tskip ((fput num wire n b).take t) = (0, 2) := by
  have hu : U64 b.length := by unfold U64; omega
  unfold fput at ht ⊢
  unfold tskip
  by_cases hw : wire = 0
  · rw [if_pos hw] at ht ⊢
    rw [List.length_append] at ht
    by_cases hc : t < (vput (8 * num + wire)).length
    · rw [List.take_append_of_le_length (by omega), ttake_cut hm hc]
      rfl
    · rw [List.take_append, List.take_of_length_le (by omega), ttake_put hm, List.drop_left, vtake_cut hn (by omega)]
      rfl
  · rw [if_neg hw] at ht ⊢
    rw [List.length_append, List.length_append] at ht
    by_cases hc : t < (vput (8 * num + wire)).length
    · rw [List.take_append_of_le_length (by omega), ttake_cut hm hc]
      rfl
    · rw [List.take_append, List.take_of_length_le (by omega), ttake_put hm, List.drop_left]
      by_cases hc2 : t - (vput (8 * num + wire)).length < (vput b.length).length
      · rw [List.take_append_of_le_length (by omega), vtake_cut hu hc2]
        rfl
      · rw [List.take_append, List.take_of_length_le (show (vput b.length).length ≤ _ by omega), vtake_put hu]
        dsimp only
        rw [if_neg (by simp), if_neg (by simp), if_neg hw, if_neg (by omega), if_pos]
        simp only [List.length_append, List.length_take]
        omega

theorem alone_fput {f : FV} (h1 : aloneB f = true) (hfl : f.len = f.b.length) : ∃ num wire : Nat, f.num = num ∧ f.wire = wire ∧ TagMay num wire ∧ fbytes f = fput num wire f.n f.b ∧ (wire = 0 → f.b = []) ∧ (wire = 2 → f.n = 0) := by
  obtain ⟨num, wire, e1, e2, hm⟩ := alone_tag h1
  refine ⟨num, wire, e1, e2, hm, by show fput f.num.toNat f.wire.toNat f.n f.b = _; rw [e1, e2]; rfl, ?_, ?_⟩
  · intro hw
    subst hw
    unfold aloneB at h1
    have : f.len = 0 := by
      by_cases a : f.num < 1
      · simp [a] at h1
      · by_cases b : 1000 < f.num
        · simp [a, b] at h1
        · simp [a, b, e2] at h1; exact h1
    exact List.eq_nil_of_length_eq_zero (by omega)
  · intro hw
    subst hw
    unfold aloneB at h1
    by_cases a : f.num < 1
    · simp [a] at h1
    · by_cases b : 1000 < f.num
      · simp [a, b] at h1
      · simp [a, b, e2] at h1; exact h1

/-- a row that is cut: short, or fewer fields -/
theorem trow_cut : ∀ (l : List FV) (p q : Option FV) (size t : Nat), mayScan p size l = 0 → (∀ f ∈ l, U64 f.n ∧ f.len = f.b.length) → p.map FV.s = q.map FV.s → t < (rput l).length →
    (trow q ((rput l).take t)).2 = 2 ∨ (trow q ((rput l).take t)).2 = 0 ∧ (trow q ((rput l).take t)).1.length < l.length
  | [], p, q, size, t, _, _, _, ht => by simp [rput] at ht
  | f :: r, p, q, size, t, h, hk, hp, ht => by
    obtain ⟨h1, h2, h3, h4⟩ := scan_head h
    obtain ⟨hu, hfl⟩ := hk f (by simp)
    obtain ⟨num, wire, e1, e2, hm, e3, hb0, hn2⟩ := alone_fput h1 hfl
    have hr : rput (f :: r) = fput num wire f.n f.b ++ rput r := by
      unfold rput
      rw [List.map_cons, List.flatten_cons, e3]
    rw [hr] at ht ⊢
    rcases Nat.eq_zero_or_pos t with h0 | h0
    · subst h0
      rw [List.take_zero, trow_nil]
      exact .inr ⟨rfl, by simp⟩
    · by_cases hc : t < (fput num wire f.n f.b).length
      · rw [List.take_append_of_le_length (by omega)]
        have hne : (fput num wire f.n f.b).take t ≠ [] := by
          intro e
          have := congrArg List.length e
          rw [List.length_take, List.length_nil] at this
          omega
        rw [trow_bad (e := 2) hne (by omega) (by rw [tskip_cut hm hu (by omega) hc])]
        exact .inl rfl
      · have hpos : 0 < (fput num wire f.n f.b).length := by
          unfold fput; rw [List.length_append, tag_len hm]; split <;> omega
        rw [List.take_append, List.take_of_length_le (show (fput num wire f.n f.b).length ≤ t by omega)]
        generalize hL : (rput r).take (t - (fput num wire f.n f.b).length) = L
        have hs := tskip_fput hm hu (show f.b.length ≤ 16384 by omega) L
        have hne : fput num wire f.n f.b ++ L ≠ [] := by
          intro h0
          have := congrArg List.length h0
          rw [List.length_append] at this; simp at this; rw [this.1] at hpos; simp at hpos
        have htf : tfield ((fput num wire f.n f.b ++ L).take (fput num wire f.n f.b).length) = tfv num wire f.n f.b := by
          rw [List.take_left]; exact tfield_put hm hu (by omega) hb0 hn2
        have hfs : (tfv num wire f.n f.b).s = f.s := by unfold tfv FV.s; rw [e1, e2, hfl]
        have hfa : fallsB q (tfield ((fput num wire f.n f.b ++ L).take (fput num wire f.n f.b).length)) = false := by
          rw [htf, ← h2]; exact (s_falls hp hfs.symm).symm
        rw [trow_next hne hpos hs hfa, List.drop_left, htf, ← hL]
        rw [List.length_append] at ht
        rcases trow_cut r (some f) (some (tfv num wire f.n f.b)) _ (t - (fput num wire f.n f.b).length) h4 (fun g hg => hk g (by simp [hg])) (by simp [hfs]) (by omega) with i1 | ⟨i1, i2⟩
        · left
          unfold tjoin
          rw [if_pos (by rw [i1]; simp)]
          exact i1
        · right
          unfold tjoin
          rw [if_neg (by rw [i1]; simp)]
          refine ⟨rfl, ?_⟩
          rw [List.length_append, List.length_singleton, List.length_cons]; omega
end Go.Proofs.YtiildgoaiookhaaGreat

/- The walk of coracleref03.Same at rows that are the same. -/
namespace Go.Proofs.YtiildgoaiookhaaGreat
open Go.RowKit

set_option maxRecDepth 100000 in
set_option maxHeartbeats 800000 in
theorem ref03_Same (A A' : Option Addr) (n c c' : Nat) (l m : List FV) (w : World) (h1 : Fs w A n l) (h2 : Fs w A' n m) (hs : l.map FV.s = m.map FV.s) (hn : n ≤ 20000) :
    Calls Tryz.prog 26 #[.slice A n c, .slice A' n c'] w fun e w' => e = .returned (.bool true) ∧ Ext w w' := by
  have hlen := h1.len
  have hlen2 := h2.len
  have HS := Lib.hid hs; clear hs
  go_enter Tryz.func26, Tryz.ntmps26
  go_wp2
  go_loopw [5] (fun i wr => ∃ j : Nat, i = .int .i64 j ∧ j ≤ n ∧ Ext w wr) (fun i _ => n - (intOf i).toNat)
  case atStart => exact ⟨0, rfl, by omega, Ext.refl w⟩
  case round =>
    obtain ⟨j, rfl, hj, hx⟩ := hrel
    by_cases hjn : j < n
    · obtain ⟨b, off, rfl, c0, c1, c2, c3⟩ := (h1.ext hx).at_ hjn
      obtain ⟨b', off', rfl, d0, d1, d2, d3⟩ := (h2.ext hx).at_ hjn
      have k1 := (h1.ext hx).ok (l[j]'(by omega)) (List.getElem_mem _)
      have k2 := (h2.ext hx).ok (m[j]'(by omega)) (List.getElem_mem _)
      have hfg : (l[j]'(by omega)).s = (m[j]'(by omega)).s := by
        have := congrArg (fun x => x[j]?) HS.out
        simpa [show j < l.length by omega, show j < m.length by omega] using this
      generalize l[j]'(by omega) = f at *
      generalize m[j]'(by omega) = g at *
      obtain ⟨num, wire, fn, fA, flen, fcap, fb⟩ := f
      obtain ⟨gnum, gwire, gn, gA, glen, gcap, gb⟩ := g
      simp only [FV.s, Prod.mk.injEq] at hfg
      obtain ⟨rfl, rfl, rfl, rfl, rfl⟩ := hfg
      have b1 := k1.bs
      have b2 := k2.bs
      dsimp only at b1 b2 c0 c1 c2 c3 d0 d1 d2 d3
      have hsA := fun k => str_at (b1.drewN k) fcap
      have hsB := fun k => str_at (b2.drewN k) gcap
      have hj0 : (0 : Int) ≤ j := by omega
      have hj1 : (j : Int) < n := by omega
      clear h1 h2 hlen hlen2 k1 k2 b1 b2
      go_wp2
      go_quiet (fail)
      go_wp2
      go_roundw
      case rel => exact ⟨j + 1, val_int (by omega), by omega, hx.drewN _⟩
      case measure => simp [intOf]; omega
    · obtain rfl : j = n := by omega
      go_wp2
      go_ret
      exact ⟨rfl, hx⟩
end Go.Proofs.YtiildgoaiookhaaGreat

/- tlv.Take on any bytes; what it takes may be and is laid down as these; the law's short. -/
namespace Go.Proofs.YtiildgoaiookhaaGreat
open Go.RowKit

/-- what tlv.Take says of any bytes -/
def ttrow (l : List UInt8) : List FV × Nat := if 16384 < l.length then ([], 4) else trow none l
theorem ttrow_clean (l : List UInt8) (h : (ttrow l).2 ≠ 0) : (ttrow l).1 = [] := by
  unfold ttrow at h ⊢
  split
  · rfl
  · rename_i h1; rw [if_neg h1] at h; exact trow_clean _ _ h
theorem ttrow_sound {l : List UInt8} (h : (ttrow l).2 = 0) : l.length ≤ 16384 ∧ rput (ttrow l).1 = l ∧ fmay (ttrow l).1 = 0 := by
  unfold ttrow at h ⊢
  by_cases h1 : 16384 < l.length
  · rw [if_pos h1] at h; cases h
  · rw [if_neg h1] at h ⊢
    have := trow_sound l.length l none 0 (Nat.le_refl _) h (by omega)
    exact ⟨by omega, this.1, this.2⟩

theorem tlv_Take_any (A : Option Addr) (n c : Nat) (l : List UInt8) (w : World) (hb : Bs w A n l) (hn : n ≤ 100000) (hnc : n ≤ c) :
    Calls Tryz.prog 12 #[.slice A n c] w fun e w' => ∃ A' c' ms, e = .returned (.tuple #[.slice A' ms.length c', .int .i64 (ttrow l).2]) ∧ Fs w' A' ms.length ms ∧ ms.map FV.s = (ttrow l).1.map FV.s ∧ ms.length ≤ c' ∧ Ext w w' := by
  have hl := hb.len
  by_cases h : 16384 < n
  · refine (tlv_Take_big A n c w h).mono ?_
    rintro e w' ⟨rfl, hx⟩
    have : ttrow l = ([], 4) := by unfold ttrow; rw [if_pos (by omega)]
    rw [this]
    exact ⟨none, 0, [], rfl, Fs.nil_ _ _, rfl, Nat.le_refl _, hx⟩
  · refine (tlv_Take A n c l w hb (by omega) hnc).mono ?_
    rintro e w' ⟨v, ms, rfl, hown, hof, hs, hx⟩
    have : ttrow l = trow none l := by unfold ttrow; rw [if_neg (by omega)]
    rw [this]
    obtain ⟨A', c', rfl, hc⟩ := own_form hown
    exact ⟨A', c', ms, rfl, Fs.of_own hown (fun f hf => (hof f hf).ok), hs, hc, hx⟩

theorem rput_field_le (l : List FV) (h : ∀ f ∈ l, aloneB f = true ∧ f.len ≤ 16384) : l.length ≤ (rput l).length := by
  induction l with
  | nil => simp
  | cons f r ih =>
    have := ih fun x hx => h x (List.mem_cons_of_mem _ hx)
    obtain ⟨num, wire, e1, e2, hm⟩ := alone_tag (h f (List.mem_cons_self ..)).1
    have hp : 0 < (fbytes f).length := by
      unfold fbytes
      rw [e1, e2]
      unfold fput; rw [List.length_append]
      have : (vput (8 * (Int.toNat (num : Int)) + (Int.toNat (wire : Int)))).length ≥ 1 := by
        rw [show Int.toNat (num : Int) = num by simp, show Int.toNat (wire : Int) = wire by simp, tag_len hm]; split <;> omega
      omega
    unfold rput at this ⊢
    rw [List.map_cons, List.flatten_cons, List.length_append, List.length_cons]; omega

/-- tlv.Put on any row, with the bytes -/
theorem tlv_Put_all (A : Option Addr) (n c : Nat) (l : List FV) (w : World) (hf : Fs w A n l) (hn : n ≤ 20000) :
    Calls Tryz.prog 32 #[.slice A n c] w fun e w' => ∃ A' k c', e = .returned (.tuple #[.slice A' k c', .int .i64 (fmay l)]) ∧ Bs w' A' k (if fmay l = 0 then rput l else []) ∧ k ≤ c' ∧ Ext w w' := by
  by_cases h : fmay l = 0
  · refine (tlv_Put_ok A n c l w hf hn h).mono ?_
    rintro e w' ⟨v, rfl, hown, hx⟩
    obtain ⟨A', c', rfl, hc⟩ := own_form hown
    exact ⟨A', _, c', by rw [h]; rfl, by rw [if_pos h]; exact Bs.of_own hown, hc, hx⟩
  · refine (tlv_Put_no A n c l w hf hn h).mono ?_
    rintro e w' ⟨rfl, hx⟩
    exact ⟨none, 0, 0, rfl, by rw [if_neg h]; exact Bs.nil_ _ _, Nat.le_refl _, hx⟩

end Go.Proofs.YtiildgoaiookhaaGreat
