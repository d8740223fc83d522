/- The walks of bytes.Clone and tlv.Split. -/
import Derived.Test.YtiildgoaiookhaaTlvF
import Derived.Test.YtiildgoaiookhaaTlvP
namespace Go.Proofs.Ytiildgoaiookhaa
open Go.RowKit

theorem own_bounds {w : World} {base : Nat} {e : TypeId} {size n c : Nat} {A : Option Addr} {xs : List Value} (h : w.ownsRow base e size (.slice A n c) n xs) : n ≤ c ∧ c ≤ maxLen := by
  rcases h.2 with ⟨hv, h0⟩ | ⟨g, cap, cur, hv, hb, hg, hc, hm, _⟩
  · injection hv with _ _ hc; subst hc; exact ⟨by omega, by unfold maxLen; omega⟩
  · injection hv with _ _ hc'; subst hc'; exact ⟨hc, hm⟩
/-- rows of unlike elements lie in unlike blocks -/
theorem own_apart {w : World} {b b' : Nat} {e e' : TypeId} {s s' n n' : Nat} {v v' : Value} {xs xs' : List Value} (h : w.ownsRow b e s v n xs) (h' : w.ownsRow b' e' s' v' n' xs') (hne : e ≠ e') : v.ownBlock = none ∨ v.ownBlock ≠ v'.ownBlock := by
  rcases h.2 with ⟨rfl, _⟩ | ⟨g, cap, cur, rfl, _, hg, _⟩
  · exact .inl rfl
  · right
    rcases h'.2 with ⟨rfl, _⟩ | ⟨g', cap', cur', rfl, _, hg', _⟩
    · simp [Value.ownBlock]
    · intro e2
      simp only [Value.ownBlock, Option.some.injEq] at e2
      subst e2
      rw [hg] at hg'
      injection hg' with hg'
      injection hg' with _ ht
      exact hne ht

set_option maxRecDepth 100000 in
set_option maxHeartbeats 400000 in
theorem bytes_Clone (A : Option Addr) (n c : Nat) (l : List UInt8) (w : World) (hb : Bs w A n l) (hn : n ≤ 100000) :
    Calls Try.prog 109 #[.slice A n c] w fun e w' => ∃ v, e = .returned v ∧ w'.ownsRow w.heap.size 5 1 v n (l.map bv) ∧ Ext w w' := by
  have he := fun w => Lib.run_eql_slice_nil (P := Try.prog) w 52 5 A n c 0 0 Try.underlying52
  rcases A with _ | a
  · have h0 : n = 0 := by
      rcases Nat.eq_zero_or_pos n with h | h
      · exact h
      · obtain ⟨b, off, h', _⟩ := hb.2 h; cases h'
    subst h0
    have hl : l = [] := List.eq_nil_of_length_eq_zero hb.len
    subst hl
    simp only [Option.isNone_none] at he
    clear hb
    go_enter Try.func109, Try.ntmps109
    go_wp2
    go_ret
    exact ⟨_, rfl, World.ownsRow_nil _ _ _ _, Ext.refl w⟩
  · simp only [Option.isNone_some] at he
    have hemp := own_empty w 5 1
    go_enter Try.func109, Try.ntmps109
    go_wp2_with (at_builtin; refine wpList_app bytesT (by omega) _ rfl rfl rfl hemp rfl (Rd.alloc hb _) (bvs_one _) (by unfold maxLen; omega) (by omega) (by simp) ?_; intro v4 w4 hown4 hg4 hat4)
    go_ret
    exact ⟨_, rfl, own_to hown4 (Nat.le_refl _) (by omega) (by simp), Below.app ((Ext.refl w).alloc _) hg4 (by simp) hemp (Nat.le_refl _)⟩

/-- a field without where its bytes lie -/
def FV.s (f : FV) : Int × Int × Nat × Nat × List UInt8 := (f.num, f.wire, f.n, f.len, f.b)
/-- a field whose bytes lie in a row of the call's own -/
def OwnF (w : World) (B : Nat) (f : FV) : Prop := w.ownsRow B 5 1 (.slice f.A f.len f.cap) f.len (f.b.map bv) ∧ U64 f.n
theorem OwnF.ok {w : World} {B : Nat} {f : FV} (h : OwnF w B f) : f.Ok w := ⟨Bs.of_own h.1, (own_bounds h.1).1, (own_bounds h.1).2, h.2⟩
theorem own_ne {v v' : Value} (ha : v'.ownBlock = none ∨ v'.ownBlock ≠ v.ownBlock) : v.ownBlock = none ∨ v.ownBlock ≠ v'.ownBlock := by
  rcases hv : v.ownBlock with _ | k
  · exact .inl rfl
  · right
    rcases ha with ha | ha
    · rw [ha]; simp
    · intro e2; rw [← e2] at ha; exact ha hv.symm
theorem apart_new {w W : World} {base : Nat} {e : TypeId} {size n : Nat} {v v' u : Value} {xs : List Value} (h : w.ownsRow base e size v n xs) (hW : w.heap.size ≤ W.heap.size) (ha : v.ownBlock = none ∨ v.ownBlock ≠ u.ownBlock) (hat : v'.ownBlock = u.ownBlock ∨ v'.ownBlock = some W.heap.size) : v.ownBlock = none ∨ v.ownBlock ≠ v'.ownBlock := by
  rcases hat with e1 | e1
  · rw [e1]; exact ha
  · rcases hv : v.ownBlock with _ | k
    · exact .inl rfl
    · right
      rw [e1]
      intro e2
      injection e2 with e2
      have := (h.lt k hv).2
      omega
def loB (most : Int) (f : FV) : Bool := decide (f.num ≤ most)
theorem filt_snoc (p : FV → Bool) (l : List FV) (j : Nat) (h : j < l.length) : (l.take (j + 1)).filter p = (l.take j).filter p ++ if p l[j] then [l[j]] else [] := by
  rw [List.take_succ_eq_append_getElem h, List.filter_append]
  congr 1
  simp only [List.filter_cons, List.filter_nil]

set_option maxRecDepth 100000 in
set_option maxHeartbeats 1600000 in
theorem tlv_Split (most : Int) (A : Option Addr) (n c : Nat) (l : List FV) (w : World) (hf : Fs w A n l) (hn : n ≤ 1000) (hb : ∀ f ∈ l, f.len ≤ 100000) :
    Calls Try.prog 84 #[.slice A n c, .int .i64 most] w fun e w' => ∃ vK vQ P Q, e = .returned (.tuple #[vK, vQ]) ∧ w'.ownsRow w.heap.size 96 4 vK P.length (rowOf P) ∧ w'.ownsRow w.heap.size 96 4 vQ Q.length (rowOf Q) ∧
      (∀ f ∈ P, f.Ok w') ∧ (∀ f ∈ Q, f.Ok w') ∧ P.map FV.s = (l.filter (loB most)).map FV.s ∧ Q.map FV.s = (l.filter (fun f => !loB most f)).map FV.s ∧ Ext w w' := by
  have hlen := hf.len
  have hK0 := World.ownsRow_nil w w.heap.size 96 4
  have Hb := Lib.hid hb; clear hb
  go_enter Try.func84, Try.ntmps84
  go_wp2
  go_loopw [4, 5, 10] (fun vK vQ i wr => ∃ (j : Nat) (P Q : List FV), i = .int .i64 j ∧ j ≤ n ∧ wr.ownsRow w.heap.size 96 4 vK P.length (rowOf P) ∧ wr.ownsRow w.heap.size 96 4 vQ Q.length (rowOf Q) ∧ (vK.ownBlock = none ∨ vK.ownBlock ≠ vQ.ownBlock) ∧
      (∀ f ∈ P, OwnF wr w.heap.size f) ∧ (∀ f ∈ Q, OwnF wr w.heap.size f) ∧ P.map FV.s = ((l.take j).filter (loB most)).map FV.s ∧ Q.map FV.s = ((l.take j).filter (fun f => !loB most f)).map FV.s ∧ Ext w wr) (fun _ _ i _ => n - (intOf i).toNat)
  case atStart => exact ⟨0, [], [], rfl, by omega, by simpa [rowOf] using hK0, by simpa [rowOf] using hK0, .inl rfl, by simp, by simp, rfl, rfl, Ext.refl w⟩
  case round =>
    obtain ⟨j, P, Q, rfl, hj, hK, hQ, hap, hP, hQf, heP, heQ, hx⟩ := hrel
    clear hK0
    have hPl : P.length ≤ j := by
      have := congrArg List.length heP
      rw [List.length_map, List.length_map] at this
      rw [this]
      exact Nat.le_trans (List.length_filter_le _ _) (List.length_take_le _ _)
    have hQl : Q.length ≤ j := by
      have := congrArg List.length heQ
      rw [List.length_map, List.length_map] at this
      rw [this]
      exact Nat.le_trans (List.length_filter_le _ _) (List.length_take_le _ _)
    have HP := Lib.hid hP
    have HQ := Lib.hid hQf
    have HeP := Lib.hid heP
    have HeQ := Lib.hid heQ
    have Hap := Lib.hid hap
    clear hP hQf heP heQ hap
    by_cases hjn : j < n
    · obtain ⟨b, off, rfl, d0, d1, d2, d3⟩ := (hf.ext hx).at_ hjn
      have hjl : j < l.length := by omega
      have hok := (hf.ext hx).ok (l[j]'hjl) (List.getElem_mem _)
      have hb1 := Hb.out (l[j]'hjl) (List.getElem_mem _)
      have hs1 := filt_snoc (loB most) l j hjl
      have hs2 := filt_snoc (fun f => !loB most f) l j hjl
      obtain ⟨f, hfj⟩ : ∃ f, l[j]'hjl = f := ⟨_, rfl⟩
      simp only [hfj] at hok hb1 hs1 hs2 d0 d1 d2 d3
      clear hfj
      have Hs1 := Lib.hid hs1
      have Hs2 := Lib.hid hs2
      clear hs1 hs2
      obtain ⟨num, wire, fn, fA, flen, fcap, fb⟩ := f
      dsimp only at d0 d1 d2 d3 hb1
      have hB0 := Blk.new wr 96 [.int .i64 num, .int .i64 wire, .int .u64 fn, .slice fA flen fcap]
      have xa : Ext wr (wr.alloc (.cells #[.int .i64 num, .int .i64 wire, .int .u64 fn, .slice fA flen fcap] 96)) := (Ext.refl wr).alloc _
      have HC := Lib.hid (bytes_Clone fA flen fcap fb _ (hok.bs.ext xa) hb1)
      have hu := hok.u
      dsimp only at hu
      have Hu := Lib.hid hu
      clear hu hok
      have hszw := hx.size
      go_wp2_with fail
      refine HC.out.mono ?_
      rintro e w1 ⟨v1, rfl, hown1, x1⟩
      obtain ⟨A1, c1, rfl, _⟩ := own_form hown1
      have hB1 := hB0.ext x1
      have q0 := hB1.cell 0
      have q1 := hB1.cell 1
      have q2 := hB1.cell 2
      have q3 := hB1.cell 3
      have f3 := hB1.frozen 3
      simp only [List.getElem?_cons_zero, List.getElem?_cons_succ] at q0 q1 q2 q3
      have hlt1 := hB1.lt
      have XW : Ext wr (w1.setCell ⟨wr.heap.size, 3, none⟩ (.slice A1 flen c1)) := (xa.trans x1).setCell (Nat.le_refl _) _
      have hclone : (w1.setCell ⟨wr.heap.size, 3, none⟩ (.slice A1 flen c1)).ownsRow w.heap.size 5 1 (.slice A1 flen c1) flen (fb.map bv) := by
        refine own_base (base := (wr.alloc (.cells #[.int .i64 num, .int .i64 wire, .int .u64 fn, .slice fA flen fcap] 96)).heap.size) ?_ (by simp; omega)
        refine ⟨hown1.1, ?_⟩
        rcases hown1.2 with hn1 | ⟨g, cap, cur, hv, hg, hgg, rest⟩
        · exact .inl hn1
        · exact .inr ⟨g, cap, cur, hv, hg, (heap_setCell_other w1 ⟨wr.heap.size, 3, none⟩ g _ (by simp at hg; dsimp only; omega)).trans hgg, rest⟩
      have hszW := XW.size
      clear hB0 hB1 hown1 x1 xa HC d0 d1 d2 d3
      by_cases hm : num ≤ most
      · have hlo : loB most ⟨num, wire, fn, fA, flen, fcap, fb⟩ = true := by simp [loB, hm]
        have Hlo := Lib.hid hlo; clear hlo
        have hK' := (own_ext hK XW).alloc (.cells #[.int .i64 num, .int .i64 wire, .int .u64 fn, .slice A1 flen c1] 96)
        go_wp2_with (at_builtin; refine wpList_app fieldsT (by omega) _ rfl rfl rfl hK' rfl (rd_at4 _ (.int .i64 num) (.int .i64 wire) (.int .u64 fn) (.slice A1 flen c1) _ _ (by simp)) (fcells_one _ _ _ _ _ _) (by unfold maxLen; omega) (by omega) (by simp; simp at hszW; omega) ?_; intro v2 w2 hown2 hg2 hat2)
        go_roundw
        case rel =>
          refine ⟨j + 1, P ++ [⟨num, wire, fn, A1, flen, c1, fb⟩], Q, val_int (by omega), by omega, own_to hown2 (Nat.le_refl _) (by simp) (by rw [rowOf_append, rowOf_one]; rfl), ((own_ext hQ XW).alloc _).kept hg2 (own_ne Hap.out), own_ne (apart_new (W := (w1.setCell ⟨wr.heap.size, 3, none⟩ (.slice A1 flen c1)).alloc (.cells #[.int .i64 num, .int .i64 wire, .int .u64 fn, .slice A1 flen c1] 96)) hQ (by simp; simp at hszW; omega) (own_ne Hap.out) hat2), ?_, ?_, ?_, ?_, ?_⟩
          · intro f hf
            rcases List.mem_append.1 hf with hf | hf
            · exact ⟨((own_ext (HP.out f hf).1 XW).alloc _).kept hg2 (own_apart ((own_ext (HP.out f hf).1 XW).alloc _) hK' (by decide)), (HP.out f hf).2⟩
            · simp only [List.mem_singleton] at hf; subst hf
              exact ⟨(hclone.alloc _).kept hg2 (own_apart (hclone.alloc _) hK' (by decide)), Hu.out⟩
          · intro f hf
            exact ⟨((own_ext (HQ.out f hf).1 XW).alloc _).kept hg2 (own_apart ((own_ext (HQ.out f hf).1 XW).alloc _) hK' (by decide)), (HQ.out f hf).2⟩
          · rw [Hs1.out, Hlo.out, List.map_append, List.map_append, HeP.out]; rfl
          · rw [Hs2.out]; simp only [Hlo.out]; simpa using HeQ.out
          · exact Below.app ((hx.trans XW).alloc _) hg2 (by simp; simp at hszW; omega) hK' (Nat.le_refl _)
        case measure => simp [intOf]; omega
      · have hlo : loB most ⟨num, wire, fn, fA, flen, fcap, fb⟩ = false := by simp [loB]; omega
        have Hlo := Lib.hid hlo; clear hlo
        have hQ' := (own_ext hQ XW).alloc (.cells #[.int .i64 num, .int .i64 wire, .int .u64 fn, .slice A1 flen c1] 96)
        go_wp2_with (at_builtin; refine wpList_app fieldsT (by omega) _ rfl rfl rfl hQ' rfl (rd_at4 _ (.int .i64 num) (.int .i64 wire) (.int .u64 fn) (.slice A1 flen c1) _ _ (by simp)) (fcells_one _ _ _ _ _ _) (by unfold maxLen; omega) (by omega) (by simp; simp at hszW; omega) ?_; intro v2 w2 hown2 hg2 hat2)
        go_roundw
        case rel =>
          refine ⟨j + 1, P, Q ++ [⟨num, wire, fn, A1, flen, c1, fb⟩], val_int (by omega), by omega, ((own_ext hK XW).alloc _).kept hg2 Hap.out, own_to hown2 (Nat.le_refl _) (by simp) (by rw [rowOf_append, rowOf_one]; rfl), apart_new (W := (w1.setCell ⟨wr.heap.size, 3, none⟩ (.slice A1 flen c1)).alloc (.cells #[.int .i64 num, .int .i64 wire, .int .u64 fn, .slice A1 flen c1] 96)) hK (by simp; simp at hszW; omega) Hap.out hat2, ?_, ?_, ?_, ?_, ?_⟩
          · intro f hf
            exact ⟨((own_ext (HP.out f hf).1 XW).alloc _).kept hg2 (own_apart ((own_ext (HP.out f hf).1 XW).alloc _) hQ' (by decide)), (HP.out f hf).2⟩
          · intro f hf
            rcases List.mem_append.1 hf with hf | hf
            · exact ⟨((own_ext (HQ.out f hf).1 XW).alloc _).kept hg2 (own_apart ((own_ext (HQ.out f hf).1 XW).alloc _) hQ' (by decide)), (HQ.out f hf).2⟩
            · simp only [List.mem_singleton] at hf; subst hf
              exact ⟨(hclone.alloc _).kept hg2 (own_apart (hclone.alloc _) hQ' (by decide)), Hu.out⟩
          · rw [Hs1.out, Hlo.out]; simpa using HeP.out
          · rw [Hs2.out]; simp only [Hlo.out]; rw [List.map_append, List.map_append, HeQ.out]; rfl
          · exact Below.app ((hx.trans XW).alloc _) hg2 (by simp; simp at hszW; omega) hQ' (Nat.le_refl _)
        case measure => simp [intOf]; omega
    · obtain rfl : n = j := by omega
      have e1 := HeP.out
      have e2 := HeQ.out
      rw [List.take_of_length_le (by omega)] at e1 e2
      have He1 := Lib.hid e1
      have He2 := Lib.hid e2
      clear e1 e2
      go_wp2
      go_ret2
      exact ⟨_, _, P, Q, rfl, hK, hQ, fun f hf => (HP.out f hf).ok, fun f hf => (HQ.out f hf).ok, He1.out, He2.out, hx⟩
end Go.Proofs.Ytiildgoaiookhaa
