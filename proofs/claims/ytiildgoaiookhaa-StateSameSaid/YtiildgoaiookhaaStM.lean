/- The walks of state.snaps and state.May. -/
import Derived.Test.YtiildgoaiookhaaStC
namespace Go.Proofs.Ytiildgoaiookhaa
open Go.RowKit

/-- may a snapshot be, but for its number -/
def snB (ver lim : Int) (f : NV) : Bool := rowChB f.ch && (inI f.set 1 8 && ((!f.held || decide (2 ≤ ver)) && decide ((f.tag.size : Int) ≤ lim)))
theorem snB_ok {ver lim : Int} {f : NV} : snB ver lim f = true ↔ rowChB f.ch = true ∧ inI f.set 1 8 = true ∧ (f.held = true → 2 ≤ ver) ∧ (f.tag.size : Int) ≤ lim := by
  unfold snB
  rcases h : f.held with _ | _ <;> simp

set_option maxRecDepth 100000 in
set_option maxHeartbeats 1600000 in
theorem st_snaps1 (f : NV) (ver lim : Int) (p q : Nat) (b : Bool) (hb : snB ver lim f = b) (w : World) (hf : f.Ok w) (hl : f.len ≤ 1000000) (hp : w.cell? ⟨p, 0, none⟩ = some (.int .i64 ver)) (hq : w.cell? ⟨q, 0, none⟩ = some (.int .i64 lim)) :
    Calls Try.prog 91 #[.agg f.cells.toArray, .pointer (some ⟨p, 0, none⟩), .pointer (some ⟨q, 0, none⟩)] w fun e w' => e = .returned (.bool b) ∧ Ext w w' := by
  have hcs := hf.cs
  obtain ⟨a, s, A, ln, cp, ch, hd, tg⟩ := f
  unfold NV.cells
  unfold snB at hb
  dsimp only at hb hcs hl ⊢
  have hB := Blk.new w 33 [.int .i64 a, .int .i64 s, .slice A ln cp, .bool hd, .string tg]
  have xa : Ext w (w.alloc (.cells #[.int .i64 a, .int .i64 s, .slice A ln cp, .bool hd, .string tg] 33)) := (Ext.refl w).alloc _
  have HC := Lib.hid (fun b hb => cmd_Chunks_e A ln cp ch _ (hcs.ext xa) hl b hb)
  have HW := Lib.hid (fun b hb w => st_within s 1 8 b hb w)
  have hpp := xa.cell hp
  have hqq := xa.cell hq
  clear hf hcs hp hq
  generalize rowChB ch = b1 at *
  generalize inI s 1 8 = b2 at *
  rcases b1 with _ | _
  · simp only [Bool.false_and] at hb
    subst hb
    have HC2 := Lib.hid (HC.out _ rfl)
    clear HC HW
    go_enter Try.func91, Try.ntmps91
    go_wp2_with fail
    refine HC2.out.mono ?_
    rintro e w1 ⟨v, rfl, y1⟩
    go_wp2
    go_ret
    exact ⟨rfl, xa.trans y1⟩
  · have HC2 := Lib.hid (HC.out _ rfl)
    rw [Bool.true_and] at hb
    rcases b2 with _ | _
    · simp only [Bool.false_and] at hb
      subst hb
      have HW2 := Lib.hid (HW.out _ rfl)
      clear HC HW
      go_enter Try.func91, Try.ntmps91
      go_wp2_with fail
      refine HC2.out.mono ?_
      rintro e w1 ⟨v, rfl, y1⟩
      have hB1 := hB.ext y1
      have d1 := hB1.cell 1
      simp only [List.getElem?_cons_zero, List.getElem?_cons_succ] at d1
      go_wp2_with (go_at_call 42; refine (HW2.out _).mono ?_; rintro e w2 ⟨rfl, rfl⟩)
      go_ret
      exact ⟨rfl, xa.trans y1⟩
    · rw [Bool.true_and] at hb
      have HW2 := Lib.hid (HW.out _ rfl)
      clear HC HW
      by_cases hv : hd = true ∧ ver < 2
      · obtain ⟨rfl, hv⟩ := hv
        have hv' : decide (2 ≤ ver) = false := dec_f (by omega)
        rw [hv'] at hb
        simp only [Bool.not_true, Bool.or_self, Bool.false_and] at hb
        subst hb
        go_enter Try.func91, Try.ntmps91
        go_wp2_with fail
        refine HC2.out.mono ?_
        rintro e w1 ⟨v, rfl, y1⟩
        have hB1 := hB.ext y1
        have d1 := hB1.cell 1
        have d3 := hB1.cell 3
        have p1 := y1.cell hpp
        simp only [List.getElem?_cons_zero, List.getElem?_cons_succ] at d1 d3
        go_wp2_with (go_at_call 42; refine (HW2.out _).mono ?_; rintro e w2 ⟨rfl, rfl⟩)
        go_ret
        exact ⟨rfl, xa.trans y1⟩
      · have hb' : decide ((tg.size : Int) ≤ lim) = b := by
          have : (!hd || decide (2 ≤ ver)) = true := by
            rcases hd with _ | _
            · rfl
            · rw [dec_t (show 2 ≤ ver by simp at hv; omega)]; rfl
          rw [this, Bool.true_and] at hb
          exact hb
        have hg : hd = false ∨ hd = true ∧ 2 ≤ ver := by
          rcases hd with _ | _
          · exact .inl rfl
          · exact .inr ⟨rfl, by simp at hv; omega⟩
        clear hb hv
        rcases hg with rfl | ⟨rfl, hv⟩
        · go_enter Try.func91, Try.ntmps91
          go_wp2_with fail
          refine HC2.out.mono ?_
          rintro e w1 ⟨v, rfl, y1⟩
          have hB1 := hB.ext y1
          have d1 := hB1.cell 1
          have d3 := hB1.cell 3
          have d4 := hB1.cell 4
          have p1 := y1.cell hpp
          have p2 := y1.cell hqq
          simp only [List.getElem?_cons_zero, List.getElem?_cons_succ] at d1 d3 d4
          go_wp2_with (go_at_call 42; refine (HW2.out _).mono ?_; rintro e w2 ⟨rfl, rfl⟩)
          go_ret
          exact ⟨rfl, xa.trans y1⟩
        · have hv' : decide (2 ≤ ver) = true := dec_t hv
          go_enter Try.func91, Try.ntmps91
          go_wp2_with fail
          refine HC2.out.mono ?_
          rintro e w1 ⟨v, rfl, y1⟩
          have hB1 := hB.ext y1
          have d1 := hB1.cell 1
          have d3 := hB1.cell 3
          have d4 := hB1.cell 4
          have p1 := y1.cell hpp
          have p2 := y1.cell hqq
          simp only [List.getElem?_cons_zero, List.getElem?_cons_succ] at d1 d3 d4
          go_wp2_with (go_at_call 42; refine (HW2.out _).mono ?_; rintro e w2 ⟨rfl, rfl⟩)
          go_ret
          exact ⟨rfl, xa.trans y1⟩

set_option maxRecDepth 100000 in
set_option maxHeartbeats 800000 in
theorem st_allSnap (A : Option Addr) (n c : Nat) (l : List NV) (ver lim : Int) (p q : Nat) (w : World) (h : Ts w A n l) (hn : n ≤ 1000000) (hlen' : ∀ f ∈ l, f.len ≤ 1000000) (hp : w.cell? ⟨p, 0, none⟩ = some (.int .i64 ver)) (hq : w.cell? ⟨q, 0, none⟩ = some (.int .i64 lim)) :
    Calls Try.prog 90 #[.slice A n c, .func (.func 91) #[] #[.pointer (some ⟨p, 0, none⟩), .pointer (some ⟨q, 0, none⟩)]] w fun e w' => e = .returned (.bool (l.all (snB ver lim))) ∧ Ext w w' := by
  have hlen := h.len
  have Hlen := Lib.hid hlen'
  clear hlen'
  go_enter Try.func90, Try.ntmps90
  go_wp2_with fail
  go_loopw [9] (fun i wr => ∃ j : Nat, i = .int .i64 j ∧ j ≤ n ∧ l.all (snB ver lim) = (l.drop j).all (snB ver lim) ∧ Ext w wr) (fun i _ => n - (intOf i).toNat)
  case atStart => exact ⟨0, rfl, by omega, rfl, Ext.refl w⟩
  case round =>
    obtain ⟨j, rfl, hj, hf, hx⟩ := hrel
    by_cases hjn : j < n
    · obtain ⟨bb, off, rfl, hlt, hc⟩ := (h.ext hx).at_ hjn
      have hok : NV.Ok (l[j]'(by omega)) wr := (h.ext hx).ok (l[j]'(by omega)) (List.getElem_mem _)
      have hl1 := Hlen.out (l[j]'(by omega)) (List.getElem_mem _)
      rw [List.drop_eq_getElem_cons (show j < l.length by omega), List.all_cons] at hf
      generalize l[j]'(by omega) = f at *
      have c0 : wr.cell? ⟨bb, off + j * 5, none⟩ = some (.int .i64 f.id) := hc 0 (by omega)
      have c1 : wr.cell? ⟨bb, off + j * 5 + 1, none⟩ = some (.int .i64 f.set) := hc 1 (by omega)
      have c2 : wr.cell? ⟨bb, off + j * 5 + 2, none⟩ = some (.slice f.A f.len f.cap) := hc 2 (by omega)
      have c3 : wr.cell? ⟨bb, off + j * 5 + 3, none⟩ = some (.bool f.held) := hc 3 (by omega)
      have c4 : wr.cell? ⟨bb, off + j * 5 + 4, none⟩ = some (.string f.tag) := hc 4 (by omega)
      have xa : Ext wr (wr.alloc (.cells #[.int .i64 f.id, .int .i64 f.set, .slice f.A f.len f.cap, .bool f.held, .string f.tag] 33)) := (Ext.refl wr).alloc _
      have HW := Lib.hid (fun b hb => st_snaps1 f ver lim p q b hb _ (hok.ext xa) hl1 ((hx.trans xa).cell hp) ((hx.trans xa).cell hq))
      clear hc hok
      rcases hb : snB ver lim f with _ | _
      · rw [hb, Bool.false_and] at hf
        have HF := Lib.hid hf
        have HW2 := Lib.hid (HW.out _ hb)
        clear hf hb HW
        go_wp2_with (go_at_call 91; refine HW2.out.mono ?_; rintro e w1 ⟨rfl, yw1⟩)
        go_ret
        exact ⟨by rw [HF.out] <;> rfl, (hx.trans xa).trans yw1⟩
      · rw [hb, Bool.true_and] at hf
        have HF := Lib.hid hf
        have HW2 := Lib.hid (HW.out _ hb)
        clear hf hb HW
        go_wp2_with (go_at_call 91; refine HW2.out.mono ?_; rintro e w1 ⟨rfl, yw1⟩)
        go_roundw
        case rel => exact ⟨j + 1, val_int (by omega), by omega, HF.out, (hx.trans xa).trans yw1⟩
        case measure => simp [intOf]; omega
    · obtain rfl : n = j := by omega
      rw [List.drop_of_length_le (by omega), List.all_nil] at hf
      have H1 := Lib.hid hf
      clear hf
      go_wp2
      go_ret
      exact ⟨by rw [H1.out] <;> rfl, hx⟩
end Go.Proofs.Ytiildgoaiookhaa
