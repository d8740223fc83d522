/- Words and walks that the last text of this claim stands on: StC, StM, StN, StS, StH, StO, StP, StPa, StCl, StQ. No condition. -/
import Derived.Test.YtiildgoaiookhaaGreatB06
import Derived.Test.YtiildgoaiookhaaGreatB07
import Derived.Test.YtiildgoaiookhaaGreatB01
/- The walks of a row of chunks: command.row, command.Chunks, coracleref05.Row. -/
namespace Go.Proofs.YtiildgoaiookhaaGreat
open Go.RowKit

/-- do numbers rise, each from a + 1 to 64 -/
def upB : Int → List Int → Bool
  | _, [] => true
  | a, n :: r => (decide (a < n) && decide (n ≤ 64)) && upB n r
/-- are numbers a row of chunks -/
def rowChB (l : List Int) : Bool := (decide (1 ≤ l.length) && decide (l.length ≤ 8)) && upB 0 l
theorem upB_nil (a : Int) : upB a [] = true := rfl
theorem upB_cons (a n : Int) (r : List Int) : upB a (n :: r) = ((decide (a < n) && decide (n ≤ 64)) && upB n r) := rfl
theorem upB_in : ∀ {l : List Int} {a : Int}, upB a l = true → ∀ x ∈ l, a < x ∧ x ≤ 64
  | [], a, _, x, hx => by simp at hx
  | n :: r, a, h, x, hx => by
    rw [upB_cons] at h
    simp only [Bool.and_eq_true, decide_eq_true_eq] at h
    rcases List.mem_cons.1 hx with rfl | hx
    · exact h.1
    · have := upB_in h.2 x hx; omega
/-- a row of chunks as bytes -/
def chput (l : List Int) : List UInt8 := (l.map fun n => vput n.toNat).flatten
theorem chput_snoc (l : List Int) (j : Nat) (h : j < l.length) : chput (l.take (j + 1)) = chput (l.take j) ++ vput l[j].toNat := by
  unfold chput; rw [List.take_succ_eq_append_getElem h, List.map_append, List.flatten_append]; simp
theorem chput_le {l : List Int} (h : ∀ x ∈ l, x ≤ 64) : (chput l).length ≤ l.length * 10 := by
  induction l with
  | nil => simp [chput]
  | cons a r ih =>
    have h1 := ih fun x hx => h x (List.mem_cons_of_mem _ hx)
    have h2 : (vput a.toNat).length ≤ 10 := by rw [vput_len]; exact U64.size (by have := h a (List.mem_cons_self ..); unfold U64; omega)
    unfold chput at h1 ⊢
    rw [List.map_cons, List.flatten_cons, List.length_append, List.length_cons]; omega

set_option maxRecDepth 100000 in
set_option maxHeartbeats 800000 in
theorem cmd_row (A : Option Addr) (n c : Nat) (l : List Int) (w : World) (h : Is w A n l) (hn : n ≤ 1000000) :
    Calls Tryz.prog 96 #[.slice A n c] w fun e w' => e = .returned (.bool (rowChB l)) ∧ w = w' := by
  have hlen := h.len
  by_cases h1 : n < 1
  · have hr : rowChB l = false := by unfold rowChB; rw [dec_f (show ¬ 1 ≤ l.length by omega)]; rfl
    rw [hr]
    have hI : (n : Int) < 1 := by omega
    clear hr
    go_enter Tryz.func96, Tryz.ntmps96
    go_wp2
    go_ret
    exact ⟨rfl, rfl⟩
  · by_cases h8 : 8 < n
    · have hr : rowChB l = false := by unfold rowChB; rw [dec_f (show ¬ l.length ≤ 8 by omega), Bool.and_false]; rfl
      rw [hr]
      have hI : decide ((n : Int) < 1) = false := dec_f (by omega)
      have hI8 : (8 : Int) < n := by omega
      clear hr
      go_enter Tryz.func96, Tryz.ntmps96
      go_wp2
      go_ret
      exact ⟨rfl, rfl⟩
    · have hr : rowChB l = upB 0 l := by unfold rowChB; rw [dec_t (show 1 ≤ l.length by omega), dec_t (show l.length ≤ 8 by omega)]; rfl
      have Hr := Lib.hid hr
      have hI : decide ((n : Int) < 1) = false := dec_f (by omega)
      have hI8 : decide ((8 : Int) < n) = false := dec_f (by omega)
      clear hr
      go_enter Tryz.func96, Tryz.ntmps96
      go_wp2_with fail
      clear hI hI8
      go_loop [3, 16] (fun q i => ∃ (j : Nat) (a : Int), i = .int .i64 j ∧ j ≤ n ∧ q = .int .i64 a ∧ upB 0 l = upB a (l.drop j)) (fun _ i => n - (intOf i).toNat)
      case atStart => exact ⟨0, 0, rfl, by omega, rfl, rfl⟩
      case round =>
        obtain ⟨j, a, rfl, hj, rfl, hf⟩ := hrel
        by_cases hjn : j < n
        · obtain ⟨bb, off, rfl, hc⟩ := h.at_ hjn
          rw [List.drop_eq_getElem_cons (show j < l.length by omega), upB_cons] at hf
          generalize l[j]'(by omega) = x at *
          by_cases k1 : a < x
          · by_cases k2 : x ≤ 64
            · rw [dec_t k1, dec_t k2, Bool.true_and, Bool.true_and] at hf
              have HF := Lib.hid hf
              clear hf
              have j1 : decide (x ≤ a) = false := dec_f (by omega)
              have j2 : decide ((64 : Int) < x) = false := dec_f (by omega)
              go_wp2
              go_round
              case rel => exact ⟨j + 1, x, val_int (by omega), by omega, rfl, HF.out⟩
              case measure => simp [intOf]; omega
            · rw [dec_f k2, Bool.and_false, Bool.false_and] at hf
              have HF := Lib.hid (Hr.out.trans hf)
              have j1 : decide (x ≤ a) = false := dec_f (by omega)
              have j2 : (64 : Int) < x := by omega
              clear hf Hr
              go_wp2
              go_ret
              exact ⟨by rw [HF.out] <;> rfl, rfl⟩
          · rw [dec_f k1, Bool.false_and, Bool.false_and] at hf
            have HF := Lib.hid (Hr.out.trans hf)
            have j1 : x ≤ a := by omega
            clear hf Hr
            go_wp2
            go_ret
            exact ⟨by rw [HF.out] <;> rfl, rfl⟩
        · obtain rfl : n = j := by omega
          rw [List.drop_of_length_le (by omega), upB_nil] at hf
          have HF := Lib.hid (Hr.out.trans hf)
          clear hf Hr
          go_wp2
          go_ret
          exact ⟨by rw [HF.out] <;> rfl, rfl⟩

set_option maxRecDepth 100000 in
set_option maxHeartbeats 800000 in
theorem cmd_Chunks_no (A : Option Addr) (n c : Nat) (l : List Int) (w : World) (h : Is w A n l) (hn : n ≤ 1000000) (hr : rowChB l = false) :
    Calls Tryz.prog 71 #[.slice A n c] w fun e w' => e = .returned (.tuple #[.slice none 0 0, .int .i64 1]) ∧ w = w' := by
  have H := cmd_row A n c l w h hn
  rw [hr] at H
  have HR := Lib.hid H
  clear H hr
  go_enter Tryz.func71, Tryz.ntmps71
  go_wp2_with fail
  refine HR.out.mono ?_
  rintro e w1 ⟨rfl, rfl⟩
  go_wp2
  go_ret2
  exact ⟨rfl, rfl⟩
set_option maxRecDepth 100000 in
set_option maxHeartbeats 800000 in
theorem cmd_Chunks_ok (A : Option Addr) (n c : Nat) (l : List Int) (w : World) (h : Is w A n l) (hr : rowChB l = true) :
    Calls Tryz.prog 71 #[.slice A n c] w fun e w' => ∃ v, e = .returned (.tuple #[v, .int .i64 0]) ∧ w'.ownsRow w.heap.size 5 1 v (chput l).length ((chput l).map bv) ∧ Ext w w' := by
  have hlen := h.len
  have hr2 := hr
  unfold rowChB at hr2
  simp only [Bool.and_eq_true, decide_eq_true_eq] at hr2
  have hup := upB_in hr2.2
  have hn8 : n ≤ 8 := by omega
  have H := cmd_row A n c l w h (by omega)
  rw [hr] at H
  have HR := Lib.hid H
  have Hup := Lib.hid hup
  have h0 := World.ownsRow_nil w w.heap.size 5 1
  clear H hr hr2 hup
  go_enter Tryz.func71, Tryz.ntmps71
  go_wp2_with fail
  refine HR.out.mono ?_
  rintro e w1 ⟨rfl, rfl⟩
  go_wp2_with fail
  go_loopw [4, 12] (fun v i wr => ∃ j : Nat, i = .int .i64 j ∧ j ≤ n ∧ wr.ownsRow w.heap.size 5 1 v (chput (l.take j)).length ((chput (l.take j)).map bv) ∧ Ext w wr) (fun _ i _ => n - (intOf i).toNat)
  case atStart => exact ⟨0, rfl, by omega, by simpa [chput] using h0, Ext.refl w⟩
  case round =>
    clear h0
    obtain ⟨j, rfl, hj, hown, hx⟩ := hrel
    by_cases hjn : j < n
    · have hjl : j < l.length := by omega
      obtain ⟨bb, off, rfl, hc⟩ := (h.ext hx).at_ hjn
      have hxb := Hup.out l[j] (List.getElem_mem _)
      have hsn := chput_snoc l j hjl
      have hle : (chput (l.take j)).length ≤ (l.take j).length * 10 := chput_le (fun x hx => (Hup.out x (List.mem_of_mem_take hx)).2)
      have hle2 : (l.take j).length ≤ j := List.length_take_le _ _
      obtain ⟨x, hx0⟩ := Int.eq_ofNat_of_zero_le (show 0 ≤ l[j] by omega)
      rw [hx0] at hc hsn hxb
      have hU : U64 x := by unfold U64; omega
      have hQ : (vput x).length ≤ 10 := by rw [vput_len]; exact hU.size
      have HP := Lib.hid (varint_Put x hU wr)
      rw [Int.toNat_natCast] at hsn
      generalize chput (l.take j) = R at *
      generalize vput x = V at *
      have Hsn := Lib.hid hsn
      have hsz := hx.size
      have hwx : IntKind.u64.wrap (x : Int) = x := hU.wrap
      clear hsn hx0
      go_wp2_with fail
      refine HP.out.mono ?_
      rintro e w2 ⟨v2, rfl, hown2, y2⟩
      obtain ⟨A2, k2, rfl, _⟩ := own_form hown2
      have b2 := Rd.of_own hown2
      have hown' := own_ext hown y2
      have hz2 := y2.size
      go_wp2_with (at_builtin; refine wpList_app bytesT (by omega) _ rfl rfl rfl hown' rfl b2 (bvs_one _) (by unfold maxLen; omega) (by omega) (by omega) ?_; intro v3 w3 hown3 hg3 hat3)
      go_roundw
      case rel => exact ⟨j + 1, val_int (by omega), by omega, own_to hown3 (Nat.le_refl _) (by rw [Hsn.out, List.length_append]) (by rw [Hsn.out, List.map_append]), Below.app (hx.trans y2) hg3 (by omega) hown' (Nat.le_refl _)⟩
      case measure => simp [intOf]; omega
    · obtain rfl : n = j := by omega
      rw [List.take_of_length_le (by omega)] at hown
      go_wp2
      go_ret2
      exact ⟨_, rfl, hown, hx⟩
theorem cmd_Chunks_e (A : Option Addr) (n c : Nat) (l : List Int) (w : World) (h : Is w A n l) (hn : n ≤ 1000000) (b : Bool) (hr : rowChB l = b) :
    Calls Tryz.prog 71 #[.slice A n c] w fun e w' => ∃ v, e = .returned (.tuple #[v, .int .i64 (if b then 0 else 1)]) ∧ Ext w w' := by
  rcases b with _ | _
  · exact (cmd_Chunks_no A n c l w h hn hr).mono fun e w' ⟨he, hw⟩ => ⟨_, he, hw ▸ Ext.refl w⟩
  · exact (cmd_Chunks_ok A n c l w h hr).mono fun e w' ⟨v, he, _, hx⟩ => ⟨v, he, hx⟩
end Go.Proofs.YtiildgoaiookhaaGreat

/- The walks of state.snaps and state.May. -/
namespace Go.Proofs.YtiildgoaiookhaaGreat
open Go.RowKit

/-- may a snapshot be, but for its number -/
def snB (ver lim : Int) (f : NV) : Bool := rowChB f.ch && (inI f.set 1 8 && ((!f.held || decide (2 ≤ ver)) && decide ((f.tag.size : Int) ≤ lim)))
theorem snB_ok {ver lim : Int} {f : NV} : snB ver lim f = true ↔ rowChB f.ch = true ∧ inI f.set 1 8 = true ∧ (f.held = true → 2 ≤ ver) ∧ (f.tag.size : Int) ≤ lim := by
  unfold snB
  rcases h : f.held with _ | _ <;> simp

set_option maxRecDepth 100000 in
set_option maxHeartbeats 1600000 in
theorem st_snaps1 (f : NV) (ver lim : Int) (p q : Nat) (b : Bool) (hb : snB ver lim f = b) (w : World) (hf : f.Ok w) (hl : f.len ≤ 1000000) (hp : w.cell? ⟨p, 0, none⟩ = some (.int .i64 ver)) (hq : w.cell? ⟨q, 0, none⟩ = some (.int .i64 lim)) :
    Calls Tryz.prog 93 #[.agg f.cells.toArray, .pointer (some ⟨p, 0, none⟩), .pointer (some ⟨q, 0, none⟩)] w fun e w' => e = .returned (.bool b) ∧ Ext w w' := by
  have hcs := hf.cs
  obtain ⟨a, s, A, ln, cp, ch, hd, tg⟩ := f
  unfold NV.cells
  unfold snB at hb
  dsimp only at hb hcs hl ⊢
  have hB := Blk.new w 70 [.int .i64 a, .int .i64 s, .slice A ln cp, .bool hd, .string tg]
  have xa : Ext w (w.alloc (.cells #[.int .i64 a, .int .i64 s, .slice A ln cp, .bool hd, .string tg] 70)) := (Ext.refl w).alloc _
  have HC := Lib.hid (fun b hb => cmd_Chunks_e A ln cp ch _ (hcs.ext xa) hl b hb)
  have HW := Lib.hid (fun b hb w => st_within s 1 8 b hb w)
  have hpp := xa.cell hp
  have hqq := xa.cell hq
  clear hf hcs hp hq
  generalize rowChB ch = b1 at *
  generalize inI s 1 8 = b2 at *
  rcases b1 with _ | _
  · simp only [Bool.false_and] at hb
    subst hb
    have HC2 := Lib.hid (HC.out _ rfl)
    clear HC HW
    go_enter Tryz.func93, Tryz.ntmps93
    go_wp2_with fail
    refine HC2.out.mono ?_
    rintro e w1 ⟨v, rfl, y1⟩
    go_wp2
    go_ret
    exact ⟨rfl, xa.trans y1⟩
  · have HC2 := Lib.hid (HC.out _ rfl)
    rw [Bool.true_and] at hb
    rcases b2 with _ | _
    · simp only [Bool.false_and] at hb
      subst hb
      have HW2 := Lib.hid (HW.out _ rfl)
      clear HC HW
      go_enter Tryz.func93, Tryz.ntmps93
      go_wp2_with fail
      refine HC2.out.mono ?_
      rintro e w1 ⟨v, rfl, y1⟩
      have hB1 := hB.ext y1
      have d1 := hB1.cell 1
      simp only [List.getElem?_cons_zero, List.getElem?_cons_succ] at d1
      go_wp2_with (go_at_call 59; refine (HW2.out _).mono ?_; rintro e w2 ⟨rfl, rfl⟩)
      go_ret
      exact ⟨rfl, xa.trans y1⟩
    · rw [Bool.true_and] at hb
      have HW2 := Lib.hid (HW.out _ rfl)
      clear HC HW
      by_cases hv : hd = true ∧ ver < 2
      · obtain ⟨rfl, hv⟩ := hv
        have hv' : decide (2 ≤ ver) = false := dec_f (by omega)
        rw [hv'] at hb
        simp only [Bool.not_true, Bool.or_self, Bool.false_and] at hb
        subst hb
        go_enter Tryz.func93, Tryz.ntmps93
        go_wp2_with fail
        refine HC2.out.mono ?_
        rintro e w1 ⟨v, rfl, y1⟩
        have hB1 := hB.ext y1
        have d1 := hB1.cell 1
        have d3 := hB1.cell 3
        have p1 := y1.cell hpp
        simp only [List.getElem?_cons_zero, List.getElem?_cons_succ] at d1 d3
        go_wp2_with (go_at_call 59; refine (HW2.out _).mono ?_; rintro e w2 ⟨rfl, rfl⟩)
        go_ret
        exact ⟨rfl, xa.trans y1⟩
      · have hb' : decide ((tg.size : Int) ≤ lim) = b := by
          have : (!hd || decide (2 ≤ ver)) = true := by
            rcases hd with _ | _
            · rfl
            · rw [dec_t (show 2 ≤ ver by simp at hv; omega)]; rfl
          rw [this, Bool.true_and] at hb
          exact hb
        have hg : hd = false ∨ hd = true ∧ 2 ≤ ver := by
          rcases hd with _ | _
          · exact .inl rfl
          · exact .inr ⟨rfl, by simp at hv; omega⟩
        clear hb hv
        rcases hg with rfl | ⟨rfl, hv⟩
        · go_enter Tryz.func93, Tryz.ntmps93
          go_wp2_with fail
          refine HC2.out.mono ?_
          rintro e w1 ⟨v, rfl, y1⟩
          have hB1 := hB.ext y1
          have d1 := hB1.cell 1
          have d3 := hB1.cell 3
          have d4 := hB1.cell 4
          have p1 := y1.cell hpp
          have p2 := y1.cell hqq
          simp only [List.getElem?_cons_zero, List.getElem?_cons_succ] at d1 d3 d4
          go_wp2_with (go_at_call 59; refine (HW2.out _).mono ?_; rintro e w2 ⟨rfl, rfl⟩)
          go_ret
          exact ⟨rfl, xa.trans y1⟩
        · have hv' : decide (2 ≤ ver) = true := dec_t hv
          go_enter Tryz.func93, Tryz.ntmps93
          go_wp2_with fail
          refine HC2.out.mono ?_
          rintro e w1 ⟨v, rfl, y1⟩
          have hB1 := hB.ext y1
          have d1 := hB1.cell 1
          have d3 := hB1.cell 3
          have d4 := hB1.cell 4
          have p1 := y1.cell hpp
          have p2 := y1.cell hqq
          simp only [List.getElem?_cons_zero, List.getElem?_cons_succ] at d1 d3 d4
          go_wp2_with (go_at_call 59; refine (HW2.out _).mono ?_; rintro e w2 ⟨rfl, rfl⟩)
          go_ret
          exact ⟨rfl, xa.trans y1⟩

set_option maxRecDepth 100000 in
set_option maxHeartbeats 800000 in
theorem st_allSnap (A : Option Addr) (n c : Nat) (l : List NV) (ver lim : Int) (p q : Nat) (w : World) (h : Ts w A n l) (hn : n ≤ 1000000) (hlen' : ∀ f ∈ l, f.len ≤ 1000000) (hp : w.cell? ⟨p, 0, none⟩ = some (.int .i64 ver)) (hq : w.cell? ⟨q, 0, none⟩ = some (.int .i64 lim)) :
    Calls Tryz.prog 92 #[.slice A n c, .func (.func 93) #[] #[.pointer (some ⟨p, 0, none⟩), .pointer (some ⟨q, 0, none⟩)]] w fun e w' => e = .returned (.bool (l.all (snB ver lim))) ∧ Ext w w' := by
  have hlen := h.len
  have Hlen := Lib.hid hlen'
  clear hlen'
  go_enter Tryz.func92, Tryz.ntmps92
  go_wp2_with fail
  go_loopw [9] (fun i wr => ∃ j : Nat, i = .int .i64 j ∧ j ≤ n ∧ l.all (snB ver lim) = (l.drop j).all (snB ver lim) ∧ Ext w wr) (fun i _ => n - (intOf i).toNat)
  case atStart => exact ⟨0, rfl, by omega, rfl, Ext.refl w⟩
  case round =>
    obtain ⟨j, rfl, hj, hf, hx⟩ := hrel
    by_cases hjn : j < n
    · obtain ⟨bb, off, rfl, hlt, hc⟩ := (h.ext hx).at_ hjn
      have hok : NV.Ok (l[j]'(by omega)) wr := (h.ext hx).ok (l[j]'(by omega)) (List.getElem_mem _)
      have hl1 := Hlen.out (l[j]'(by omega)) (List.getElem_mem _)
      rw [List.drop_eq_getElem_cons (show j < l.length by omega), List.all_cons] at hf
      generalize l[j]'(by omega) = f at *
      have c0 : wr.cell? ⟨bb, off + j * 5, none⟩ = some (.int .i64 f.id) := hc 0 (by omega)
      have c1 : wr.cell? ⟨bb, off + j * 5 + 1, none⟩ = some (.int .i64 f.set) := hc 1 (by omega)
      have c2 : wr.cell? ⟨bb, off + j * 5 + 2, none⟩ = some (.slice f.A f.len f.cap) := hc 2 (by omega)
      have c3 : wr.cell? ⟨bb, off + j * 5 + 3, none⟩ = some (.bool f.held) := hc 3 (by omega)
      have c4 : wr.cell? ⟨bb, off + j * 5 + 4, none⟩ = some (.string f.tag) := hc 4 (by omega)
      have xa : Ext wr (wr.alloc (.cells #[.int .i64 f.id, .int .i64 f.set, .slice f.A f.len f.cap, .bool f.held, .string f.tag] 70)) := (Ext.refl wr).alloc _
      have HW := Lib.hid (fun b hb => st_snaps1 f ver lim p q b hb _ (hok.ext xa) hl1 ((hx.trans xa).cell hp) ((hx.trans xa).cell hq))
      clear hc hok
      rcases hb : snB ver lim f with _ | _
      · rw [hb, Bool.false_and] at hf
        have HF := Lib.hid hf
        have HW2 := Lib.hid (HW.out _ hb)
        clear hf hb HW
        go_wp2_with (go_at_call 93; refine HW2.out.mono ?_; rintro e w1 ⟨rfl, yw1⟩)
        go_ret
        exact ⟨by rw [HF.out] <;> rfl, (hx.trans xa).trans yw1⟩
      · rw [hb, Bool.true_and] at hf
        have HF := Lib.hid hf
        have HW2 := Lib.hid (HW.out _ hb)
        clear hf hb HW
        go_wp2_with (go_at_call 93; refine HW2.out.mono ?_; rintro e w1 ⟨rfl, yw1⟩)
        go_roundw
        case rel => exact ⟨j + 1, val_int (by omega), by omega, HF.out, (hx.trans xa).trans yw1⟩
        case measure => simp [intOf]; omega
    · obtain rfl : n = j := by omega
      rw [List.drop_of_length_le (by omega), List.all_nil] at hf
      have H1 := Lib.hid hf
      clear hf
      go_wp2
      go_ret
      exact ⟨by rw [H1.out] <;> rfl, hx⟩
end Go.Proofs.YtiildgoaiookhaaGreat

/- The walk of state.May. -/
namespace Go.Proofs.YtiildgoaiookhaaGreat
open Go.RowKit

def tagLim (ver : Int) : Int := if ver < 3 then 0 else 16
/-- may the snapshots of a catalogue be -/
def snsB (ver next : Int) (l : List NV) : Bool := decide (l.length ≤ 16) && (risB NV.id (next - 1) 0 l && l.all (snB ver (tagLim ver)))

set_option maxRecDepth 100000 in
set_option maxHeartbeats 1600000 in
theorem st_snaps (s : KV) (ver : Int) (b : Bool) (hb : snsB ver s.next s.sns = b) (w : World) (hs : s.Ok w) (hn : s.n3 ≤ 1000000) (hl : ∀ f ∈ s.sns, f.len ≤ 1000000) (h1 : 1 ≤ s.next) (h2 : s.next ≤ 1048576) :
    Calls Tryz.prog 68 #[s.val, .int .i64 ver] w fun e w' => e = .returned (.bool b) ∧ Ext w w' := by
  have ht := hs.t3
  obtain ⟨ver_, next, keep, quota, A1, n1, c1, ses, A2, n2, c2, ops, A3, n3, c3, sns⟩ := s
  unfold KV.val
  unfold snsB at hb
  dsimp only at hb hn ht hl h1 h2 ⊢
  have hlen := ht.len
  have hB0 := (Blk.new w 29 [.int .i64 ver_, .int .i64 next, .int .i64 keep, .int .i64 quota, .slice A1 n1 c1, .slice A2 n2 c2, .slice A3 n3 c3]).alloc (.cells #[.int .i64 ver] 3)
  have hV0 := Blk.new (w.alloc (.cells #[.int .i64 ver_, .int .i64 next, .int .i64 keep, .int .i64 quota, .slice A1 n1 c1, .slice A2 n2 c2, .slice A3 n3 c3] 29)) 3 [.int .i64 ver]
  rw [show (w.alloc (.cells #[.int .i64 ver_, .int .i64 next, .int .i64 keep, .int .i64 quota, .slice A1 n1 c1, .slice A2 n2 c2, .slice A3 n3 c3] 29)).heap.size = w.heap.size + 1 by simp] at hV0
  have xa : Ext w ((w.alloc (.cells #[.int .i64 ver_, .int .i64 next, .int .i64 keep, .int .i64 quota, .slice A1 n1 c1, .slice A2 n2 c2, .slice A3 n3 c3] 29)).alloc (.cells #[.int .i64 ver] 3)) := ((Ext.refl w).alloc _).alloc _
  have HR := Lib.hid (st_risingSnap A3 n3 c3 sns (next - 1) _ (ht.ext xa) hn (by omega))
  have hwr : IntKind.i64.wrap (next - 1) = next - 1 := IntWalk.i64_in _ (by omega)
  have Hl := Lib.hid hl
  clear hs hl
  by_cases h16 : 16 < n3
  · rw [dec_f (show ¬ sns.length ≤ 16 by omega), Bool.false_and] at hb
    subst hb
    have hI : (16 : Int) < n3 := by omega
    clear HR
    go_enter Tryz.func68, Tryz.ntmps68
    go_wp2
    go_ret
    exact ⟨rfl, xa⟩
  · rw [dec_t (show sns.length ≤ 16 by omega), Bool.true_and] at hb
    have hI : decide ((16 : Int) < n3) = false := dec_f (by omega)
    rcases hr : risB NV.id (next - 1) 0 sns with _ | _
    · rw [hr, Bool.false_and] at hb
      subst hb
      rw [hr] at HR
      clear hr
      go_enter Tryz.func68, Tryz.ntmps68
      go_wp2_with fail
      refine HR.out.mono ?_
      rintro e w1 ⟨rfl, y1⟩
      go_wp2
      go_ret
      exact ⟨rfl, xa.trans y1⟩
    · rw [hr, Bool.true_and] at hb
      rw [hr] at HR
      clear hr
      by_cases hv : ver < 3
      · have hlim : tagLim ver = 0 := by unfold tagLim; rw [if_pos hv]
        rw [hlim] at hb
        have Hb := Lib.hid hb
        clear hb hlim
        go_enter Tryz.func68, Tryz.ntmps68
        go_wp2_with fail
        refine HR.out.mono ?_
        rintro e w1 ⟨rfl, y1⟩
        have hB1 := hB0.ext y1
        have hV1 := hV0.ext y1
        have d6 := hB1.cell 6
        have v0 := hV1.cell 0
        simp only [List.getElem?_cons_zero, List.getElem?_cons_succ] at d6 v0
        have xb := xa.trans y1
        have hlt1 := hV1.lt
        have hlt0 := hB1.lt
        have hL : Blk (w1.alloc (.cells #[.int .i64 0] 3)) w1.heap.size 3 [.int .i64 0] := Blk.new w1 3 [.int .i64 0]
        have hq := hL.cell 0
        simp only [List.getElem?_cons_zero] at hq
        have HA := Lib.hid (st_allSnap A3 n3 c3 sns ver 0 (w.heap.size + 1) w1.heap.size _ (ht.ext (xb.alloc (.cells #[.int .i64 0] 3))) hn Hl.out (((Ext.refl w1).alloc (.cells #[.int .i64 0] 3)).cell v0) hq)
        clear hB0 hV0 hB1 hV1 hL hq HR
        go_wp2_with fail
        refine HA.out.mono ?_
        rintro e w2 ⟨rfl, y2⟩
        go_wp2
        go_ret
        exact ⟨by rw [Hb.out] <;> rfl, (xb.alloc _).trans y2⟩
      · have hlim : tagLim ver = 16 := by unfold tagLim; rw [if_neg hv]
        rw [hlim] at hb
        have Hb := Lib.hid hb
        have hv' : decide (ver < 3) = false := dec_f hv
        clear hb hlim hv
        go_enter Tryz.func68, Tryz.ntmps68
        go_wp2_with fail
        refine HR.out.mono ?_
        rintro e w1 ⟨rfl, y1⟩
        have hB1 := hB0.ext y1
        have hV1 := hV0.ext y1
        have d6 := hB1.cell 6
        have v0 := hV1.cell 0
        simp only [List.getElem?_cons_zero, List.getElem?_cons_succ] at d6 v0
        have xb := xa.trans y1
        have hlt1 := hV1.lt
        have hlt0 := hB1.lt
        have hL : Blk (w1.alloc (.cells #[.int .i64 16] 3)) w1.heap.size 3 [.int .i64 16] := Blk.new w1 3 [.int .i64 16]
        have hq := hL.cell 0
        simp only [List.getElem?_cons_zero] at hq
        have HA := Lib.hid (st_allSnap A3 n3 c3 sns ver 16 (w.heap.size + 1) w1.heap.size _ (ht.ext (xb.alloc (.cells #[.int .i64 16] 3))) hn Hl.out (((Ext.refl w1).alloc (.cells #[.int .i64 16] 3)).cell v0) hq)
        clear hB0 hV0 hB1 hV1 hL hq HR
        go_wp2_with fail
        refine HA.out.mono ?_
        rintro e w2 ⟨rfl, y2⟩
        go_wp2
        go_ret
        exact ⟨by rw [Hb.out] <;> rfl, (xb.alloc _).trans y2⟩

def quotaLim (ver : Int) : Int := if ver < 3 then 0 else 64
def numB (s : KV) (ver : Int) : Bool := inI s.ver 1 3 && (inI s.next 1 1048576 && (inI s.keep 0 8 && inI s.quota 0 (quotaLim ver)))
def sesOk (l : List CV) : Bool := risB CV.client 8 0 l && l.all sesB
def opsOk (l : List OV) : Bool := risB OV.set 8 0 l && l.all opnB
def codeB (b : Bool) : Nat := if b then 0 else 6
/-- may a catalogue be at a version: an error's number -/
def kmay (s : KV) (ver : Int) : Nat := if inI ver 1 3 = false then 1 else codeB (((numB s ver && sesOk s.ses) && opsOk s.ops) && snsB ver s.next s.sns)

set_option maxRecDepth 100000 in
set_option maxHeartbeats 3200000 in
theorem st_May (s : KV) (ver : Int) (w : World) (hs : s.Ok w) (hn1 : s.n1 ≤ 1000000) (hn2 : s.n2 ≤ 1000000) (hn3 : s.n3 ≤ 1000000) (hl : ∀ f ∈ s.sns, f.len ≤ 1000000) :
    Calls Tryz.prog 28 #[s.val, .int .i64 ver] w fun e w' => e = .returned (.int .i64 (kmay s ver)) ∧ Ext w w' := by
  have ht1 := hs.t1
  have ht2 := hs.t2
  have HSn := Lib.hid (fun (w' : World) (h : Ext w w') h1 h2 => st_snaps s ver _ rfl w' (hs.ext h) hn3 hl h1 h2)
  clear hs
  unfold kmay numB
  obtain ⟨ver_, next, keep, quota, A1, n1, c1, ses, A2, n2, c2, ops, A3, n3, c3, sns⟩ := s
  unfold KV.val at HSn ⊢
  dsimp only at hn1 hn2 ht1 ht2 HSn ⊢
  have hB0 := Blk.new w 29 [.int .i64 ver_, .int .i64 next, .int .i64 keep, .int .i64 quota, .slice A1 n1 c1, .slice A2 n2 c2, .slice A3 n3 c3]
  have xa : Ext w (w.alloc (.cells #[.int .i64 ver_, .int .i64 next, .int .i64 keep, .int .i64 quota, .slice A1 n1 c1, .slice A2 n2 c2, .slice A3 n3 c3] 29)) := (Ext.refl w).alloc _
  have HW0 := Lib.hid (fun b hb w => st_within ver 1 3 b hb w)
  rcases hv : inI ver 1 3 with _ | _
  · have H := Lib.hid (HW0.out _ hv)
    simp only [if_true]
    clear HW0 hv HSn
    go_enter Tryz.func28, Tryz.ntmps28
    go_wp2_with (go_at_call 59; refine (H.out _).mono ?_; rintro e w1 ⟨rfl, rfl⟩)
    go_ret
    exact ⟨rfl, xa⟩
  · have H := Lib.hid (HW0.out _ hv)
    obtain ⟨v1, v3⟩ := inI_iff.1 hv
    rw [if_neg (show ¬ true = false by simp)]
    clear HW0 hv
    go_enter Tryz.func28, Tryz.ntmps28
    go_upto_if 13 with (go_at_call 59; refine (H.out _).mono ?_; rintro e w1 ⟨rfl, rfl⟩)
    generalize (w.alloc (.cells #[.int .i64 ver_, .int .i64 next, .int .i64 keep, .int .i64 quota, .slice A1 n1 c1, .slice A2 n2 c2, .slice A3 n3 c3] 29)) = W0 at *
    go_cut [5] (fun s5 wx => s5 = .int .i64 (quotaLim ver) ∧ W0 = wx)
    case first =>
      clear HSn
      by_cases h3 : ver < 3
      · go_wp2_with fail
        go_meet
        exact ⟨by unfold quotaLim; rw [if_pos h3], rfl⟩
      · have h3' : decide (ver < 3) = false := dec_f h3
        go_wp2_with fail
        go_meet
        exact ⟨by unfold quotaLim; rw [if_neg (by omega)], rfl⟩
    case rest =>
      obtain ⟨rfl, rfl⟩ := hcut
      have N1 := Lib.hid (fun b hb w => st_within ver_ 1 3 b hb w)
      have N2 := Lib.hid (fun b hb w => st_within next 1 1048576 b hb w)
      have N3 := Lib.hid (fun b hb w => st_within keep 0 8 b hb w)
      have N4 := Lib.hid (fun b hb w => st_within quota 0 (quotaLim ver) b hb w)
      have hnx : inI next 1 1048576 = true → 1 ≤ next ∧ next ≤ 1048576 := inI_iff.1
      have d0 := hB0.cell 0
      have d1 := hB0.cell 1
      have d2 := hB0.cell 2
      have d3 := hB0.cell 3
      simp only [List.getElem?_cons_zero, List.getElem?_cons_succ] at d0 d1 d2 d3
      have Hnx := Lib.hid hnx
      clear hnx H
      generalize e1 : inI ver_ 1 3 = b1 at *
      generalize e2 : inI next 1 1048576 = b2 at *
      generalize e3 : inI keep 0 8 = b3 at *
      generalize e4 : inI quota 0 (quotaLim ver) = b4 at *
      have EE : Hid ((inI ver_ 1 3 && (inI next 1 1048576 && (inI keep 0 8 && inI quota 0 (quotaLim ver)))) = (b1 && (b2 && (b3 && b4)))) := Lib.hid (by rw [e1, e2, e3, e4])
      clear e1 e2 e3 e4
      generalize quotaLim ver = ql at N4 ⊢
      go_upto_region 6 with fail
      go_cut [6] (fun s6 wx => s6 = .bool (b1 && (b2 && (b3 && b4))) ∧ W0 = wx)
      case first =>
        clear HSn Hnx
        rcases b1 with _ | _
        · have M1 := Lib.hid (N1.out _ rfl)
          clear N1 N2 N3 N4
          go_wp2_with (go_at_call 59; refine (M1.out _).mono ?_; rintro e w1 ⟨rfl, rfl⟩)
          go_meet
          exact ⟨rfl, rfl⟩
        · have M1 := Lib.hid (N1.out _ rfl)
          rcases b2 with _ | _
          · have M2 := Lib.hid (N2.out _ rfl)
            clear N1 N2 N3 N4
            go_wp2_with (first
              | (go_at_call 59; ((with_reducible refine (M1.out _).mono ?_); rintro e w1 ⟨rfl, rfl⟩))
              | (go_at_call 59; ((with_reducible refine (M2.out _).mono ?_); rintro e w1 ⟨rfl, rfl⟩)))
            go_meet
            exact ⟨rfl, rfl⟩
          · have M2 := Lib.hid (N2.out _ rfl)
            rcases b3 with _ | _
            · have M3 := Lib.hid (N3.out _ rfl)
              clear N1 N2 N3 N4
              go_wp2_with (first
                | (go_at_call 59; ((with_reducible refine (M1.out _).mono ?_); rintro e w1 ⟨rfl, rfl⟩))
                | (go_at_call 59; ((with_reducible refine (M2.out _).mono ?_); rintro e w1 ⟨rfl, rfl⟩))
                | (go_at_call 59; ((with_reducible refine (M3.out _).mono ?_); rintro e w1 ⟨rfl, rfl⟩)))
              go_meet
              exact ⟨rfl, rfl⟩
            · have M3 := Lib.hid (N3.out _ rfl)
              have M4 := Lib.hid (N4.out _ rfl)
              clear N1 N2 N3 N4
              go_wp2_with (first
                | (go_at_call 59; ((with_reducible refine (M1.out _).mono ?_); rintro e w1 ⟨rfl, rfl⟩))
                | (go_at_call 59; ((with_reducible refine (M2.out _).mono ?_); rintro e w1 ⟨rfl, rfl⟩))
                | (go_at_call 59; ((with_reducible refine (M3.out _).mono ?_); rintro e w1 ⟨rfl, rfl⟩))
                | (go_at_call 59; ((with_reducible refine (M4.out _).mono ?_); rintro e w1 ⟨rfl, rfl⟩)))
              go_meet
              exact ⟨rfl, rfl⟩
      case rest =>
        obtain ⟨rfl, rfl⟩ := hcut
        clear N1 N2 N3 N4 d0 d1 d2 d3
        have Hnx2 : Hid ((b1 && (b2 && (b3 && b4))) = true → 1 ≤ next ∧ next ≤ 1048576) := Lib.hid (fun h => by
          simp only [Bool.and_eq_true] at h
          exact Hnx.out h.2.1)
        clear Hnx
        generalize (b1 && (b2 && (b3 && b4))) = nb at *
        have d4 := hB0.cell 4
        simp only [List.getElem?_cons_zero, List.getElem?_cons_succ] at d4
        have R1 := Lib.hid (st_risingSess A1 n1 c1 ses 8 _ (ht1.ext xa) hn1 (by omega))
        have A1' := Lib.hid (fun (w' : World) (h : Ext W0 w') => st_allSess A1 n1 c1 ses w' ((ht1.ext xa).ext h) hn1)
        go_upto_region 7 with fail
        go_cut [7] (fun s7 wx => s7 = .bool (sesOk ses) ∧ Ext W0 wx)
        case first =>
          rcases hr : risB CV.client 8 0 ses with _ | _
          · rw [hr] at R1
            have Hr := Lib.hid hr
            clear hr A1'
            go_wp2_with fail
            refine R1.out.mono ?_
            rintro e w1 ⟨rfl, y1⟩
            go_wp2_with fail
            go_meet
            exact ⟨by unfold sesOk; rw [Hr.out] <;> rfl, y1⟩
          · rw [hr] at R1
            have Hr := Lib.hid hr
            clear hr
            go_wp2_with fail
            refine R1.out.mono ?_
            rintro e w1 ⟨rfl, y1⟩
            have d4' := y1.cell d4
            go_wp2_with fail
            refine (A1'.out _ y1).mono ?_
            rintro e w2 ⟨rfl, y2⟩
            have Hab : Hid (sesOk ses = ses.all sesB) := Lib.hid (by unfold sesOk; rw [Hr.out, Bool.true_and])
            generalize ses.all sesB = ab at *
            clear Hr
            go_wp2_with fail
            go_meet
            exact ⟨by rw [Hab.out], y1.trans y2⟩
        case rest =>
          obtain ⟨rfl, y1⟩ := hcut
          generalize es : sesOk ses = sb at *
          have ES := Lib.hid es
          clear es
          obtain ⟨W1, rfl⟩ : ∃ W1 : World, W1 = wc := ⟨_, rfl⟩
          have hB1 := hB0.ext y1
          have xb := xa.trans y1
          have d5 := hB1.cell 5
          simp only [List.getElem?_cons_zero, List.getElem?_cons_succ] at d5
          have R2 := Lib.hid (st_risingOpen A2 n2 c2 ops 8 _ (ht2.ext xb) hn2 (by omega))
          have A2' := Lib.hid (fun (w' : World) (h : Ext W1 w') => st_allOpen A2 n2 c2 ops w' ((ht2.ext xb).ext h) hn2)
          clear hB0 R1 A1' d4 ht1 ht2 xa y1
          go_upto_region 8 with fail
          go_cut [8] (fun s8 wx => s8 = .bool (opsOk ops) ∧ Ext W1 wx)
          case first =>
            rcases hr : risB OV.set 8 0 ops with _ | _
            · rw [hr] at R2
              have Hr := Lib.hid hr
              clear hr A2'
              go_wp2_with fail
              refine R2.out.mono ?_
              rintro e w1 ⟨rfl, y1⟩
              go_wp2_with fail
              go_meet
              exact ⟨by unfold opsOk; rw [Hr.out] <;> rfl, y1⟩
            · rw [hr] at R2
              have Hr := Lib.hid hr
              clear hr
              go_wp2_with fail
              refine R2.out.mono ?_
              rintro e w1 ⟨rfl, y1⟩
              have d5' := y1.cell d5
              go_wp2_with fail
              refine (A2'.out _ y1).mono ?_
              rintro e w2 ⟨rfl, y2⟩
              have Hab : Hid (opsOk ops = ops.all opnB) := Lib.hid (by unfold opsOk; rw [Hr.out, Bool.true_and])
              generalize ops.all opnB = ab at *
              clear Hr
              go_wp2_with fail
              go_meet
              exact ⟨by rw [Hab.out], y1.trans y2⟩
          case rest =>
            obtain ⟨rfl, y2⟩ := hcut
            generalize eo : opsOk ops = ob at *
            have EO := Lib.hid eo
            clear eo
            have hB2 := hB1.ext y2
            have xc := xb.trans y2
            have d0 := hB2.cell 0
            have d1 := hB2.cell 1
            have d2 := hB2.cell 2
            have d3 := hB2.cell 3
            have d4 := hB2.cell 4
            have d5' := hB2.cell 5
            have d6 := hB2.cell 6
            simp only [List.getElem?_cons_zero, List.getElem?_cons_succ] at d0 d1 d2 d3 d4 d5' d6
            clear hB1 hB2 R2 A2' d5 xb y2
            rcases nb with _ | _
            · clear HSn
              go_wp2
              go_ret
              exact ⟨by rw [EE.out] <;> rfl, xc⟩
            · obtain ⟨x1, x2⟩ := Hnx2.out rfl
              rcases sb with _ | _
              · clear HSn
                go_wp2
                go_ret
                exact ⟨by rw [EE.out, ES.out] <;> rfl, xc⟩
              · rcases ob with _ | _
                · clear HSn
                  go_wp2
                  go_ret
                  exact ⟨by rw [EE.out, ES.out, EO.out] <;> rfl, xc⟩
                · have HS2 := Lib.hid (HSn.out _ xc x1 x2)
                  generalize en : snsB ver next sns = nb at *
                  have EN := Lib.hid en
                  clear en
                  clear HSn Hnx2
                  go_wp2_with fail
                  refine HS2.out.mono ?_
                  rintro e w1 ⟨rfl, y3⟩
                  rcases nb with _ | _
                  · go_wp2
                    go_ret
                    exact ⟨by rw [EE.out, ES.out, EO.out, EN.out] <;> rfl, xc.trans y3⟩
                  · go_wp2
                    go_ret
                    exact ⟨by rw [EE.out, ES.out, EO.out, EN.out] <;> rfl, xc.trans y3⟩
end Go.Proofs.YtiildgoaiookhaaGreat

/- The walks of same, sameSnap, EqualFunc and Same of a catalogue. (The head is printed by wip/tools/stsame.py.) -/
namespace Go.Proofs.YtiildgoaiookhaaGreat
open Go.RowKit

theorem run_neq_cv (f g : CV) (w : World) : (binOp .neq 63 (.agg #[.int .i64 f.client, .int .i64 f.seq, .int .i64 f.code, .int .i64 f.n]) (.agg #[.int .i64 g.client, .int .i64 g.seq, .int .i64 g.code, .int .i64 g.n])).run Tryz.prog w = .ok (.bool (!decide (f = g))) w := by
  obtain ⟨a, b, c, d⟩ := f
  obtain ⟨a', b', c', d'⟩ := g
  simp only [go_sem, CV.mk.injEq]
  by_cases h1 : a = a' <;> by_cases h2 : b = b' <;> by_cases h3 : c = c' <;> by_cases h4 : d = d' <;> simp [go_sem, h1, h2, h3, h4]
theorem run_neq_ov (f g : OV) (w : World) : (binOp .neq 65 (.agg #[.int .i64 f.set, .int .i64 f.client]) (.agg #[.int .i64 g.set, .int .i64 g.client])).run Tryz.prog w = .ok (.bool (!decide (f = g))) w := by
  obtain ⟨a, b⟩ := f
  obtain ⟨a', b'⟩ := g
  simp only [go_sem, OV.mk.injEq]
  by_cases h1 : a = a' <;> by_cases h2 : b = b' <;> simp [go_sem, h1, h2]
theorem take_eq_snoc {α : Type} {l m : List α} {j : Nat} (hl : j < l.length) (hm : j < m.length) (h : l.take j = m.take j) (he : l[j] = m[j]) : l.take (j + 1) = m.take (j + 1) := by
  rw [List.take_succ_eq_append_getElem hl, List.take_succ_eq_append_getElem hm, h, he]
theorem take_ne {α : Type} {l m : List α} {j : Nat} (hl : j < l.length) (hm : j < m.length) (he : l[j] ≠ m[j]) : l ≠ m := by
  rintro rfl; exact he rfl

theorem bytes_ne {a b : ByteArray} (h : a ≠ b) : (a.toList == b.toList) = false := by
  rw [beq_eq_false_iff_ne]
  intro e
  rw [ByteArray.toList_eq, ByteArray.toList_eq] at e
  exact h (ByteArray.ext (Array.ext' e))
/-- are two snapshots the same -/
def nvEq (a b : NV) : Bool := decide (a.id = b.id) && (decide (a.set = b.set) && (decide (a.held = b.held) && (decide (a.tag = b.tag) && decide (a.ch = b.ch))))
theorem nvEq_iff {a b : NV} : nvEq a b = true ↔ a.id = b.id ∧ a.set = b.set ∧ a.held = b.held ∧ a.tag = b.tag ∧ a.ch = b.ch := by
  unfold nvEq; simp
/-- are two rows of snapshots the same -/
def snsEq : List NV → List NV → Bool
  | [], [] => true
  | a :: l, b :: m => nvEq a b && snsEq l m
  | _, _ => false
theorem snsEq_cons (a b : NV) (l m : List NV) : snsEq (a :: l) (b :: m) = (nvEq a b && snsEq l m) := rfl
theorem snsEq_len : ∀ {l m : List NV}, l.length ≠ m.length → snsEq l m = false
  | [], [], h => absurd rfl h
  | [], _ :: _, _ => rfl
  | _ :: _, [], _ => rfl
  | a :: l, b :: m, h => by rw [snsEq_cons, snsEq_len (l := l) (m := m) (by simpa using h), Bool.and_false]
/-- are two catalogues the same -/
def kSame (a b : KV) : Bool := decide (a.ver = b.ver) && (decide (a.next = b.next) && (decide (a.keep = b.keep) && (decide (a.quota = b.quota) && (decide (a.ses = b.ses) && (decide (a.ops = b.ops) && snsEq a.sns b.sns)))))
/-- a catalogue of not too many things -/
structure KV.Few (s : KV) : Prop where
  n1 : s.n1 ≤ 1000000
  n2 : s.n2 ≤ 1000000
  n3 : s.n3 ≤ 1000000
  ch : ∀ f ∈ s.sns, f.len ≤ 1000000
end Go.Proofs.YtiildgoaiookhaaGreat

/- The walk of shown of layer 7's laws. -/
namespace Go.Proofs.YtiildgoaiookhaaGreat
open Go.RowKit

/-- an empty catalogue -/
def freshK : KV := ⟨1, 1, 0, 0, none, 0, 0, [], none, 0, 0, [], none, 0, 0, []⟩
theorem i64_small {n : Int} (h : -1000000 ≤ n ∧ n ≤ 1000000) : I64 n := ⟨by omega, by omega⟩
theorem freshK_ok (w : World) : freshK.Ok w :=
  ⟨i64_small (by simp [freshK]), i64_small (by simp [freshK]), i64_small (by simp [freshK]), i64_small (by simp [freshK]), Ts.nil_ _ _ (by omega), Nat.le_refl _, by decide, Ts.nil_ _ _ (by omega), Nat.le_refl _, by decide, Ts.nil_ _ _ (by omega), Nat.le_refl _, by decide⟩
theorem freshK_few : freshK.Few := ⟨by decide, by decide, by decide, by simp [freshK]⟩
set_option maxRecDepth 100000 in
theorem ref07_Fresh (w : World) : Calls Tryz.prog 11 #[] w fun e w' => e = .returned freshK.val ∧ Ext w w' := by
  unfold freshK KV.val
  dsimp only
  go_enter Tryz.func11, Tryz.ntmps11
  go_wp2
  refine bodyPost_ret (v := .agg #[.int .i64 1, .int .i64 1, .int .i64 0, .int .i64 0, .slice none 0 0, .slice none 0 0, .slice none 0 0]) (by simp [results, Tryz.results11, go_sem]) rfl ⟨rfl, (Ext.refl w).alloc _⟩

/-- the catalogue of the document's example -/
def shS1 (g : Nat) : NV := ⟨1, 2, some ⟨g, 0, none⟩, 1, 1, [1], false, ⟨#[]⟩⟩
def shS2 (g : Nat) : NV := ⟨2, 2, some ⟨g, 0, none⟩, 1, 1, [1], false, ⟨#[]⟩⟩
def shK (a b c : Nat) : KV := ⟨1, 3, 1, 0, none, 0, 0, [], none, 0, 0, [], some ⟨c, 0, none⟩, 2, 2, [shS1 a, shS2 b]⟩
theorem shK_ok {w : World} {a b c : Nat} (h1 : Blk w a 3 [.int .i64 1]) (h2 : Blk w b 3 [.int .i64 1])
    (h3 : Blk w c 70 [.int .i64 1, .int .i64 2, .slice (some ⟨a, 0, none⟩) 1 1, .bool false, .string ⟨#[]⟩, .int .i64 2, .int .i64 2, .slice (some ⟨b, 0, none⟩) 1 1, .bool false, .string ⟨#[]⟩]) : (shK a b c).Ok w := by
  have one : ∀ {g : Nat}, Blk w g 3 [.int .i64 1] → Is w (some ⟨g, 0, none⟩) 1 [1] := fun {g} h => ⟨rfl, fun _ => ⟨g, 0, rfl, h.lt, fun j u hu => by rw [Nat.zero_add, h.cell]; exact hu⟩⟩
  have i1 : I64 1 := i64_small (by omega)
  have i2 : I64 2 := i64_small (by omega)
  refine ⟨i1, i64_small (by simp [shK]), i1, i64_small (by simp [shK]), Ts.nil_ _ _ (by omega), Nat.le_refl _, by simp [shK, maxLen], Ts.nil_ _ _ (by omega), Nat.le_refl _, by simp [shK, maxLen], ⟨⟨rfl, fun _ => ⟨c, 0, rfl, h3.lt, fun j u hu => by rw [Nat.zero_add, h3.cell]; exact hu⟩⟩, ?_, by omega⟩, Nat.le_refl _, by simp [shK, maxLen]⟩
  intro f hf
  simp only [shK, List.mem_cons, List.not_mem_nil, or_false] at hf
  rcases hf with rfl | rfl
  · exact ⟨i1, i2, one h1, Nat.le_refl _, by simp [shS1, maxLen], by simp [shS1, i1], by show (0 : Nat) ≤ maxLen; exact Nat.zero_le _⟩
  · exact ⟨i2, i2, one h2, Nat.le_refl _, by simp [shS2, maxLen], by simp [shS2, i1], by show (0 : Nat) ≤ maxLen; exact Nat.zero_le _⟩
theorem shK_few (a b c : Nat) : (shK a b c).Few := ⟨by simp [shK], by simp [shK], by simp [shK], by intro f hf; simp only [shK, List.mem_cons, List.not_mem_nil, or_false] at hf; rcases hf with rfl | rfl <;> simp [shS1, shS2]⟩
theorem shK_kept0 (a b c : Nat) : keptB (shK a b c).keep (shK a b c).sns 0 = false := by rfl
theorem shK_kept1 (a b c : Nat) : keptB (shK a b c).keep (shK a b c).sns 1 = true := by rfl
theorem shK_may (a b c : Nat) : kmay (shK a b c) 1 = 0 := by rfl
theorem nvEq_refl (f : NV) : nvEq f f = true := by simp [nvEq]
theorem snsEq_refl : ∀ l : List NV, snsEq l l = true
  | [] => rfl
  | f :: r => by rw [snsEq_cons, nvEq_refl, snsEq_refl r]; rfl
theorem kSame_refl (s : KV) : kSame s s = true := by simp [kSame, snsEq_refl]

end Go.Proofs.YtiildgoaiookhaaGreat

/- What the laws of layer 7 begin with. -/
namespace Go.Proofs.YtiildgoaiookhaaGreat
open Go.RowKit

theorem lessK_few (s : KV) (A : Option Addr) (c : Nat) : (lessK s A c).Few :=
  ⟨by dsimp only [lessK]; omega, by dsimp only [lessK]; omega, by dsimp only [lessK]; omega, fun f hf => by
    obtain ⟨g, _, rfl⟩ := List.mem_map.1 hf
    have := cutN_len g; omega⟩
/-- a world in which a block of seven cells was stored anew -/
def put7 (w : World) (g : Nat) (a b c d e f v : Value) : World := ((((((w.setCell ⟨g, 0, none⟩ a).setCell ⟨g, 1, none⟩ b).setCell ⟨g, 2, none⟩ c).setCell ⟨g, 3, none⟩ d).setCell ⟨g, 4, none⟩ e).setCell ⟨g, 5, none⟩ f).setCell ⟨g, 6, none⟩ v
theorem Blk.st7 {w : World} {g : Nat} {t : TypeId} {a' b' c' d' e' f' v' : Value} (h : Blk w g t [a', b', c', d', e', f', v']) (a b c d e f v : Value) : Blk (put7 w g a b c d e f v) g t [a, b, c, d, e, f, v] := by
  have := ((((((h.set_ 0 a).set_ 1 b).set_ 2 c).set_ 3 d).set_ 4 e).set_ 5 f).set_ 6 v
  unfold put7
  simpa using this
theorem Ext.st7 {w0 w : World} {g : Nat} (h : Ext w0 w) (hg : w0.heap.size ≤ g) (a b c d e f v : Value) : Ext w0 (put7 w g a b c d e f v) :=
  ((((((h.setCell (p := ⟨g, 0, none⟩) hg a).setCell (p := ⟨g, 1, none⟩) hg b).setCell (p := ⟨g, 2, none⟩) hg c).setCell (p := ⟨g, 3, none⟩) hg d).setCell (p := ⟨g, 4, none⟩) hg e).setCell (p := ⟨g, 5, none⟩) hg f).setCell (p := ⟨g, 6, none⟩) hg v
theorem own_st7 {w : World} {base : Nat} {t : TypeId} {size n : Nat} {u : Value} {xs : List Value} (h : w.ownsRow base t size u n xs) {g : Nat} (hg : g < base) (a b c d e f v : Value) : (put7 w g a b c d e f v).ownsRow base t size u n xs :=
  own_set (own_set (own_set (own_set (own_set (own_set (own_set h (p := ⟨g, 0, none⟩) hg a) (p := ⟨g, 1, none⟩) hg b) (p := ⟨g, 2, none⟩) hg c) (p := ⟨g, 3, none⟩) hg d) (p := ⟨g, 4, none⟩) hg e) (p := ⟨g, 5, none⟩) hg f) (p := ⟨g, 6, none⟩) hg v
theorem st7_def (w : World) (g : Nat) (a b c d e f v : Value) : ((((((w.setCell ⟨g, 0, none⟩ a).setCell ⟨g, 1, none⟩ b).setCell ⟨g, 2, none⟩ c).setCell ⟨g, 3, none⟩ d).setCell ⟨g, 4, none⟩ e).setCell ⟨g, 5, none⟩ f).setCell ⟨g, 6, none⟩ v = put7 w g a b c d e f v := rfl
end Go.Proofs.YtiildgoaiookhaaGreat

/- What May says of catalogues that are alike, in plain words. -/
namespace Go.Proofs.YtiildgoaiookhaaGreat
open Go.RowKit

theorem codeB_0 {b : Bool} : codeB b = 0 ↔ b = true := by rcases b with _ | _ <;> simp [codeB]
theorem kmay_ok {s : KV} {v : Int} (h1 : 1 ≤ v) (h3 : v ≤ 3) : kmay s v = 0 ↔ numB s v = true ∧ sesOk s.ses = true ∧ opsOk s.ops = true ∧ snsB v s.next s.sns = true := by
  unfold kmay
  rw [if_neg (by rw [inI_t h1 h3]; simp), codeB_0]
  simp only [Bool.and_eq_true]
  constructor
  · rintro ⟨⟨⟨a, b⟩, c⟩, d⟩; exact ⟨a, b, c, d⟩
  · rintro ⟨a, b, c, d⟩; exact ⟨⟨⟨a, b⟩, c⟩, d⟩
theorem numB_iff {s : KV} {v : Int} : numB s v = true ↔ (1 ≤ s.ver ∧ s.ver ≤ 3) ∧ (1 ≤ s.next ∧ s.next ≤ 1048576) ∧ (0 ≤ s.keep ∧ s.keep ≤ 8) ∧ (0 ≤ s.quota ∧ s.quota ≤ quotaLim v) := by
  unfold numB; simp only [Bool.and_eq_true, inI_iff]
theorem snsB_iff {v next : Int} {l : List NV} : snsB v next l = true ↔ l.length ≤ 16 ∧ risB NV.id (next - 1) 0 l = true ∧ ∀ f ∈ l, snB v (tagLim v) f = true := by
  unfold snsB; simp only [Bool.and_eq_true, decide_eq_true_eq, List.all_eq_true]
theorem quotaLim_up {v : Int} : quotaLim v ≤ quotaLim (v + 1) := by unfold quotaLim; split <;> split <;> omega
theorem tagLim_up {v : Int} : tagLim v ≤ tagLim (v + 1) := by unfold tagLim; split <;> split <;> omega
theorem kmay_up {s : KV} {v : Int} (h1 : 1 ≤ v) (h2 : v ≤ 2) (h : kmay s v = 0) : kmay s (v + 1) = 0 := by
  obtain ⟨a, b, c, d⟩ := (kmay_ok h1 (by omega)).1 h
  refine (kmay_ok (by omega) (by omega)).2 ⟨?_, b, c, ?_⟩
  · obtain ⟨x1, x2, x3, x4⟩ := numB_iff.1 a
    have := quotaLim_up (v := v)
    exact numB_iff.2 ⟨x1, x2, x3, x4.1, by omega⟩
  · obtain ⟨y1, y2, y3⟩ := snsB_iff.1 d
    refine snsB_iff.2 ⟨y1, y2, fun f hf => ?_⟩
    obtain ⟨z1, z2, z3, z4⟩ := snB_ok.1 (y3 f hf)
    have := tagLim_up (v := v)
    exact snB_ok.2 ⟨z1, z2, fun h => by have := z3 h; omega, by omega⟩
theorem risB_map {α : Type} {key : α → Int} {m : Int} {g : α → α} (hg : ∀ x, key (g x) = key x) : ∀ (l : List α) (a : Int), risB key m a (l.map g) = risB key m a l
  | [], _ => rfl
  | x :: r, a => by rw [List.map_cons, risB_cons, risB_cons, hg, risB_map hg r]
/-- a snapshot without what is new behind a version -/
def bareN (v : Int) (f : NV) : NV := ⟨f.id, f.set, f.A, f.len, f.cap, f.ch, if v = 1 then false else f.held, if v = 2 then ⟨#[]⟩ else f.tag⟩
theorem bareN_ok {v : Int} {f : NV} {w : World} (h : f.Ok w) : (bareN v f).Ok w :=
  ⟨h.u0, h.u1, h.cs, h.le, h.cap, h.uc, by
    have := h.ut
    unfold bareN; dsimp only
    split
    · exact Nat.zero_le _
    · exact this⟩
def bareK (v : Int) (s : KV) (A : Option Addr) (c : Nat) : KV := ⟨s.ver, s.next, s.keep, if v = 2 then 0 else s.quota, s.A1, s.n1, s.c1, s.ses, s.A2, s.n2, s.c2, s.ops, A, s.n3, c, s.sns.map (bareN v)⟩
theorem bareK_may {s : KV} {v : Int} (A : Option Addr) (c : Nat) (hv : v = 1 ∨ v = 2) (h : kmay s (v + 1) = 0) : kmay (bareK v s A c) v = 0 := by
  obtain ⟨a, b, c', d⟩ := (kmay_ok (by omega) (by omega)).1 h
  refine (kmay_ok (by omega) (by omega)).2 ⟨?_, b, c', ?_⟩
  · obtain ⟨x1, x2, x3, x4⟩ := numB_iff.1 a
    refine numB_iff.2 ⟨x1, x2, x3, ?_⟩
    unfold bareK quotaLim
    dsimp only
    unfold quotaLim at x4
    rcases hv with rfl | rfl
    · rw [if_neg (by omega), if_pos (by omega)]; rw [if_pos (by omega)] at x4; exact x4
    · rw [if_pos rfl, if_pos (by omega)]; omega
  · obtain ⟨y1, y2, y3⟩ := snsB_iff.1 d
    refine snsB_iff.2 ⟨by unfold bareK; simpa using y1, by unfold bareK; dsimp only; rw [risB_map (g := bareN v) (fun _ => rfl)]; exact y2, ?_⟩
    intro f hf
    obtain ⟨g, hg, rfl⟩ := List.mem_map.1 hf
    obtain ⟨z1, z2, z3, z4⟩ := snB_ok.1 (y3 g hg)
    rcases hv with rfl | rfl
    · exact snB_ok.2 ⟨z1, z2, fun h => by simp [bareN] at h, z4⟩
    · refine snB_ok.2 ⟨z1, z2, fun _ => by omega, ?_⟩
      unfold bareN tagLim
      dsimp only
      rw [if_pos rfl, if_pos (by omega)]
      exact Int.le_refl 0
end Go.Proofs.YtiildgoaiookhaaGreat

/- A catalogue without one of its things, or with a snapshot twice: what May says, in plain words. -/
namespace Go.Proofs.YtiildgoaiookhaaGreat
open Go.RowKit

theorem risB_weak {α : Type} {key : α → Int} {m : Int} : ∀ {l : List α} {a a' : Int}, a' ≤ a → risB key m a l = true → risB key m a' l = true
  | [], _, _, _, _ => rfl
  | e :: r, a, a', h, hr => by
    rw [risB_cons] at hr ⊢
    simp only [Bool.and_eq_true] at hr ⊢
    obtain ⟨k1, k2⟩ := inI_iff.1 hr.1
    exact ⟨inI_t (by omega) k2, hr.2⟩
theorem risB_less {α : Type} {key : α → Int} {m : Int} {x : α} : ∀ {l1 l2 : List α} {a : Int}, risB key m a (l1 ++ x :: l2) = true → risB key m a (l1 ++ l2) = true
  | [], l2, a, h => by
    rw [List.nil_append, risB_cons] at h
    simp only [Bool.and_eq_true] at h
    obtain ⟨k1, _⟩ := inI_iff.1 h.1
    exact risB_weak (by omega) h.2
  | e :: r, l2, a, h => by
    rw [List.cons_append, risB_cons] at h ⊢
    simp only [Bool.and_eq_true] at h ⊢
    exact ⟨h.1, risB_less h.2⟩
theorem risB_gt {α : Type} {key : α → Int} {m : Int} : ∀ {l : List α} {a : Int}, risB key m a l = true → ∀ y ∈ l, a < key y
  | [], _, _, y, hy => by simp at hy
  | e :: r, a, h, y, hy => by
    rw [risB_cons] at h
    simp only [Bool.and_eq_true] at h
    obtain ⟨k1, _⟩ := inI_iff.1 h.1
    rcases List.mem_cons.1 hy with rfl | hy
    · omega
    · have := risB_gt h.2 y hy; omega
theorem risB_last {α : Type} {key : α → Int} {m : Int} {x : α} : ∀ {l : List α} {a : Int}, risB key m a (l ++ [x]) = true → ∀ y ∈ l, key y < key x
  | [], _, _, y, hy => by simp at hy
  | e :: r, a, h, y, hy => by
    rw [List.cons_append, risB_cons] at h
    simp only [Bool.and_eq_true] at h
    rcases List.mem_cons.1 hy with rfl | hy
    · exact risB_gt h.2 x (by simp)
    · exact risB_last h.2 y hy
theorem take_drop_mid {α : Type} (l : List α) (i : Nat) (h : i < l.length) : l = l.take i ++ l[i] :: l.drop (i + 1) := by
  rw [← List.drop_eq_getElem_cons h, List.take_append_drop]
/-- without one of its clients -/
def lessSes (t : KV) (i : Nat) (A : Option Addr) (n c : Nat) : KV := ⟨t.ver, t.next, t.keep, t.quota, A, n, c, t.ses.take i ++ t.ses.drop (i + 1), t.A2, t.n2, t.c2, t.ops, t.A3, t.n3, t.c3, t.sns⟩
def lessOps (t : KV) (i : Nat) (A : Option Addr) (n c : Nat) : KV := ⟨t.ver, t.next, t.keep, t.quota, t.A1, t.n1, t.c1, t.ses, A, n, c, t.ops.take i ++ t.ops.drop (i + 1), t.A3, t.n3, t.c3, t.sns⟩
def lessSns (t : KV) (i : Nat) (A : Option Addr) (n c : Nat) : KV := ⟨t.ver, t.next, t.keep, t.quota, t.A1, t.n1, t.c1, t.ses, t.A2, t.n2, t.c2, t.ops, A, n, c, t.sns.take i ++ t.sns.drop (i + 1)⟩
def moreSns (t : KV) (x : NV) (A : Option Addr) (n c : Nat) : KV := ⟨t.ver, t.next, t.keep, t.quota, t.A1, t.n1, t.c1, t.ses, t.A2, t.n2, t.c2, t.ops, A, n, c, t.sns ++ [x]⟩
section
variable {t : KV} {v : Int} {i : Nat} {A : Option Addr} {n c : Nat}
theorem lessSes_may (h1 : 1 ≤ v) (h3 : v ≤ 3) (h : kmay t v = 0) (hi : i < t.ses.length) : kmay (lessSes t i A n c) v = 0 := by
  obtain ⟨a, b, d, e⟩ := (kmay_ok h1 h3).1 h
  refine (kmay_ok h1 h3).2 ⟨a, ?_, d, e⟩
  unfold sesOk at b ⊢
  rw [take_drop_mid t.ses i hi] at b
  simp only [Bool.and_eq_true] at b ⊢
  refine ⟨risB_less b.1, ?_⟩
  have := b.2
  simp only [lessSes, List.all_append, List.all_cons, Bool.and_eq_true] at this ⊢
  exact ⟨this.1, this.2.2⟩
theorem lessOps_may (h1 : 1 ≤ v) (h3 : v ≤ 3) (h : kmay t v = 0) (hi : i < t.ops.length) : kmay (lessOps t i A n c) v = 0 := by
  obtain ⟨a, b, d, e⟩ := (kmay_ok h1 h3).1 h
  refine (kmay_ok h1 h3).2 ⟨a, b, ?_, e⟩
  unfold opsOk at d ⊢
  rw [take_drop_mid t.ops i hi] at d
  simp only [Bool.and_eq_true] at d ⊢
  refine ⟨risB_less d.1, ?_⟩
  have := d.2
  simp only [lessOps, List.all_append, List.all_cons, Bool.and_eq_true] at this ⊢
  exact ⟨this.1, this.2.2⟩
theorem lessSns_may (h1 : 1 ≤ v) (h3 : v ≤ 3) (h : kmay t v = 0) (hi : i < t.sns.length) : kmay (lessSns t i A n c) v = 0 := by
  obtain ⟨a, b, d, e⟩ := (kmay_ok h1 h3).1 h
  refine (kmay_ok h1 h3).2 ⟨a, b, d, ?_⟩
  obtain ⟨y1, y2, y3⟩ := snsB_iff.1 e
  refine snsB_iff.2 ⟨?_, ?_, ?_⟩
  · unfold lessSns; simp only [List.length_append, List.length_take, List.length_drop]; omega
  · rw [take_drop_mid t.sns i hi] at y2; exact risB_less y2
  · intro f hf
    refine y3 f ?_
    rcases List.mem_append.1 hf with hf | hf
    · exact List.mem_of_mem_take hf
    · exact List.mem_of_mem_drop hf
theorem moreSns_may (h1 : 1 ≤ v) (h3 : v ≤ 3) (x : NV) (hx : x ∈ t.sns) : kmay (moreSns t x A n c) v = 6 := by
  unfold kmay
  rw [if_neg (by rw [inI_t h1 h3]; simp)]
  have : snsB v (moreSns t x A n c).next (moreSns t x A n c).sns = false := by
    by_cases hc : snsB v (moreSns t x A n c).next (moreSns t x A n c).sns = true
    · exfalso
      obtain ⟨_, y2, _⟩ := snsB_iff.1 hc
      have := risB_last y2 x hx
      omega
    · simpa using hc
  rw [this, Bool.and_false]; rfl
end
end Go.Proofs.YtiildgoaiookhaaGreat

/- slices.Clone at the rows of a catalogue. (Printed by wip/tools/stclone.py.) -/
namespace Go.Proofs.YtiildgoaiookhaaGreat
open Go.RowKit

end Go.Proofs.YtiildgoaiookhaaGreat

/- The walks of coracleref05.Row and coracleref07.snap. -/
namespace Go.Proofs.YtiildgoaiookhaaGreat
open Go.RowKit

set_option maxRecDepth 100000 in
theorem ref05_in (n lo hi : Int) (b : Bool) (hb : inI n lo hi = b) (w : World) : Calls Tryz.prog 104 #[.int .i64 n, .int .i64 lo, .int .i64 hi] w fun e w' => e = .returned (.bool b) ∧ w' = w := by
  by_cases h1 : lo ≤ n
  · by_cases h2 : n ≤ hi
    · rw [inI_t h1 h2] at hb; subst hb
      go_enter Tryz.func104, Tryz.ntmps104
      go_wp2
      go_ret
      exact ⟨rfl, rfl⟩
    · rw [inI_f (.inr (by omega))] at hb; subst hb
      have j0 : decide (n ≤ hi) = false := dec_f h2
      go_enter Tryz.func104, Tryz.ntmps104
      go_wp2
      go_ret
      exact ⟨rfl, rfl⟩
  · rw [inI_f (.inl (by omega))] at hb; subst hb
    have j0 : decide (lo ≤ n) = false := dec_f h1
    go_enter Tryz.func104, Tryz.ntmps104
    go_wp2
    go_ret
    exact ⟨rfl, rfl⟩
theorem ref07_in' (n lo hi : Int) (b : Bool) (hb : inI n lo hi = b) (w : World) : Calls Tryz.prog 86 #[.int .i64 n, .int .i64 lo, .int .i64 hi] w fun e w' => e = .returned (.bool b) ∧ w' = w :=
  (ref07_in n lo hi b hb w).mono fun _ _ ⟨h1, h2⟩ => ⟨h1, h2.symm⟩

set_option maxRecDepth 100000 in
set_option maxHeartbeats 1600000 in
theorem ref05_Row (A : Option Addr) (n c : Nat) (l : List Int) (w : World) (h : Is w A n l) (hn : n ≤ 1000000) :
    Calls Tryz.prog 84 #[.slice A n c] w fun e w' => e = .returned (.bool (rowChB l)) ∧ Ext w w' := by
  have hlen := h.len
  go_enter Tryz.func84, Tryz.ntmps84
  go_wp2_with fail
  go_loopw [3] (fun i wr => ∃ (j : Nat) (a : Int), i = .int .i64 j ∧ j ≤ n ∧ (j = 0 ∧ a = 0 ∨ 0 < j ∧ l[j - 1]? = some a ∧ 0 < a) ∧ upB 0 l = upB a (l.drop j) ∧ Ext w wr) (fun i _ => n - (intOf i).toNat)
  case atStart => exact ⟨0, 0, rfl, by omega, .inl ⟨rfl, rfl⟩, rfl, Ext.refl w⟩
  case round =>
    obtain ⟨j, a, rfl, hj, hpa, hf, hx⟩ := hrel
    by_cases hjn : j < n
    · have hjl : j < l.length := by omega
      obtain ⟨bb, off, rfl, hc⟩ := (h.ext hx).at_ hjn
      rw [List.drop_eq_getElem_cons hjl, upB_cons] at hf
      have Hx1 : Hid (∀ x, l[j] = x → l[j + 1 - 1]? = some x) := Lib.hid (fun x hx => by rw [show j + 1 - 1 = j by omega, List.getElem?_eq_getElem hjl, hx])
      generalize hgx : l[j] = x at *
      have Hx2 := Lib.hid (Hx1.out x rfl)
      clear hgx Hx1
      have hj0 : (0 : Int) ≤ j := by omega
      have hj1 : (j : Int) < n := by omega
      have HI := Lib.hid (fun b hb w => ref05_in x 1 64 b hb w)
      by_cases k0 : inI x 1 64 = true
      case neg =>
        have k1 : inI x 1 64 = false := by simpa using k0
        have hff : upB 0 l = false := by
          rw [hf]
          have : (decide (a < x) && decide (x ≤ 64)) = false := by
            by_cases h1 : a < x
            · by_cases h2 : x ≤ 64
              · exfalso
                refine k0 (inI_t ?_ h2)
                rcases hpa with ⟨_, rfl⟩ | ⟨_, _, h3⟩ <;> omega
              · rw [dec_f h2, Bool.and_false]
            · rw [dec_f h1, Bool.false_and]
          rw [this, Bool.false_and]
        have HF : Hid (rowChB l = false) := Lib.hid (by unfold rowChB; rw [hff, Bool.and_false])
        have HI2 := Lib.hid (fun w => HI.out false k1 w)
        clear hf hff k0 k1 HI hpa Hx2
        go_wp2_with fail
        go_quiet ((go_at_call 104; exact Calls.quiet_of_same (HI2.out _)))
        go_wp2
        go_ret
        exact ⟨by rw [HF.out] <;> rfl, hx.drewN _⟩
      case pos =>
        have HI2 := Lib.hid (fun w => HI.out true k0 w)
        obtain ⟨x1, x64⟩ := inI_iff.1 k0
        rw [dec_t x64, Bool.and_true] at hf
        clear HI k0
        rcases Nat.eq_zero_or_pos j with rfl | hjp
        · have ha0 : a = 0 := by rcases hpa with ⟨_, h⟩ | ⟨h, _⟩; exact h; omega
          subst ha0
          rw [dec_t (by omega), Bool.true_and] at hf
          have HF := Lib.hid hf
          rw [Nat.add_zero] at hc
          clear hf hpa
          go_wp2_with fail
          go_quiet ((go_at_call 104; exact Calls.quiet_of_same (HI2.out _)))
          go_wp2
          go_roundw
          case rel => exact ⟨0 + 1, x, val_int (by omega), by omega, .inr ⟨by omega, Hx2.out, by omega⟩, HF.out, hx.drewN _⟩
          case measure => simp [intOf]; omega
        · obtain ⟨i, rfl⟩ : ∃ i, j = i + 1 := ⟨j - 1, by omega⟩
          have hia : l[i]? = some a := by
            rcases hpa with ⟨h, _⟩ | ⟨_, h, _⟩
            · omega
            · simpa using h
          have hil : i < l.length := by omega
          obtain ⟨b', off', hA', hc'⟩ := (h.ext hx).at_ (show i < n by omega)
          injection hA' with hA'
          injection hA' with hb' ho'
          subst hb' ho'
          have hai : l[i] = a := by rw [List.getElem?_eq_getElem hil] at hia; simpa using hia
          rw [hai] at hc'
          have hw1 : IntKind.i64.wrap (i : Int) = i := IntWalk.i64_in _ (by omega)
          have hw2 : IntKind.i64.wrap ((i : Int) + 1) = (i : Int) + 1 := IntWalk.i64_in _ (by omega)
          have hi0 : (0 : Int) ≤ i := by omega
          have hi1 : (i : Int) < n := by omega
          have hip : decide ((0 : Int) < (i : Int) + 1) = true := dec_t (by omega)
          clear hpa hia hai
          by_cases k2 : a < x
          · rw [dec_t k2, Bool.true_and] at hf
            have HF := Lib.hid hf
            have k3 : decide (x ≤ a) = false := dec_f (by omega)
            clear hf
            go_wp2_with fail
            go_quiet ((go_at_call 104; exact Calls.quiet_of_same (HI2.out _)))
            go_wp2
            go_roundw
            case rel => exact ⟨i + 1 + 1, x, val_int (by omega), by omega, .inr ⟨by omega, Hx2.out, by omega⟩, HF.out, hx.drewN _⟩
            case measure => simp [intOf]; omega
          · rw [dec_f k2, Bool.false_and] at hf
            have HF : Hid (rowChB l = false) := Lib.hid (by unfold rowChB; rw [hf, Bool.and_false])
            have k3 : decide (x ≤ a) = true := dec_t (by omega)
            clear hf
            go_wp2_with fail
            go_quiet ((go_at_call 104; exact Calls.quiet_of_same (HI2.out _)))
            go_wp2
            go_ret
            exact ⟨by rw [HF.out] <;> rfl, hx.drewN _⟩
    · obtain rfl : n = j := by omega
      rw [List.drop_of_length_le (by omega), upB_nil] at hf
      have HF : Hid (rowChB l = (decide (1 ≤ n) && decide (n ≤ 8))) := Lib.hid (by unfold rowChB; rw [hf, Bool.and_true, hlen])
      clear hf hpa
      by_cases k1 : 1 ≤ n
      · by_cases k2 : n ≤ 8
        · have HF2 : Hid (rowChB l = true) := Lib.hid (by rw [HF.out, dec_t k1, dec_t k2]; rfl)
          have j1 : decide ((n : Int) ≤ 8) = true := dec_t (by omega)
          clear HF
          go_wp2
          go_ret
          exact ⟨by rw [HF2.out] <;> rfl, hx⟩
        · have HF2 : Hid (rowChB l = false) := Lib.hid (by rw [HF.out, dec_f k2, Bool.and_false])
          have j1 : decide ((n : Int) ≤ 8) = false := dec_f (by omega)
          clear HF
          go_wp2
          go_ret
          exact ⟨by rw [HF2.out] <;> rfl, hx⟩
      · have HF2 : Hid (rowChB l = false) := Lib.hid (by rw [HF.out, dec_f k1, Bool.false_and])
        have j1 : decide ((1 : Int) ≤ n) = false := dec_f (by omega)
        clear HF
        go_wp2
        go_ret
        exact ⟨by rw [HF2.out] <;> rfl, hx⟩
end Go.Proofs.YtiildgoaiookhaaGreat
