/- Words and walks that the last text of this claim stands on: StC, StM, StN, StS. No condition. -/
import Derived.Test.YtiildgoaiookhaaB06
import Derived.Test.YtiildgoaiookhaaB07
/- The walks of a row of chunks: command.row, command.Chunks, coracleref05.Row. -/
namespace Go.Proofs.Ytiildgoaiookhaa
open Go.RowKit

/-- do numbers rise, each from a + 1 to 64 -/
def upB : Int → List Int → Bool
  | _, [] => true
  | a, n :: r => (decide (a < n) && decide (n ≤ 64)) && upB n r
/-- are numbers a row of chunks -/
def rowChB (l : List Int) : Bool := (decide (1 ≤ l.length) && decide (l.length ≤ 8)) && upB 0 l
theorem upB_nil (a : Int) : upB a [] = true := rfl
theorem upB_cons (a n : Int) (r : List Int) : upB a (n :: r) = ((decide (a < n) && decide (n ≤ 64)) && upB n r) := rfl
theorem upB_in : ∀ {l : List Int} {a : Int}, upB a l = true → ∀ x ∈ l, a < x ∧ x ≤ 64
  | [], a, _, x, hx => by simp at hx
  | n :: r, a, h, x, hx => by
    rw [upB_cons] at h
    simp only [Bool.and_eq_true, decide_eq_true_eq] at h
    rcases List.mem_cons.1 hx with rfl | hx
    · exact h.1
    · have := upB_in h.2 x hx; omega
/-- a row of chunks as bytes -/
def chput (l : List Int) : List UInt8 := (l.map fun n => vput n.toNat).flatten
theorem chput_snoc (l : List Int) (j : Nat) (h : j < l.length) : chput (l.take (j + 1)) = chput (l.take j) ++ vput l[j].toNat := by
  unfold chput; rw [List.take_succ_eq_append_getElem h, List.map_append, List.flatten_append]; simp
theorem chput_le {l : List Int} (h : ∀ x ∈ l, x ≤ 64) : (chput l).length ≤ l.length * 10 := by
  induction l with
  | nil => simp [chput]
  | cons a r ih =>
    have h1 := ih fun x hx => h x (List.mem_cons_of_mem _ hx)
    have h2 : (vput a.toNat).length ≤ 10 := by rw [vput_len]; exact U64.size (by have := h a (List.mem_cons_self ..); unfold U64; omega)
    unfold chput at h1 ⊢
    rw [List.map_cons, List.flatten_cons, List.length_append, List.length_cons]; omega

set_option maxRecDepth 100000 in
set_option maxHeartbeats 800000 in
theorem cmd_row (A : Option Addr) (n c : Nat) (l : List Int) (w : World) (h : Is w A n l) (hn : n ≤ 1000000) :
    Calls Try.prog 114 #[.slice A n c] w fun e w' => e = .returned (.bool (rowChB l)) ∧ w = w' := by
  have hlen := h.len
  by_cases h1 : n < 1
  · have hr : rowChB l = false := by unfold rowChB; rw [dec_f (show ¬ 1 ≤ l.length by omega)]; rfl
    rw [hr]
    have hI : (n : Int) < 1 := by omega
    clear hr
    go_enter Try.func114, Try.ntmps114
    go_wp2
    go_ret
    exact ⟨rfl, rfl⟩
  · by_cases h8 : 8 < n
    · have hr : rowChB l = false := by unfold rowChB; rw [dec_f (show ¬ l.length ≤ 8 by omega), Bool.and_false]; rfl
      rw [hr]
      have hI : decide ((n : Int) < 1) = false := dec_f (by omega)
      have hI8 : (8 : Int) < n := by omega
      clear hr
      go_enter Try.func114, Try.ntmps114
      go_wp2
      go_ret
      exact ⟨rfl, rfl⟩
    · have hr : rowChB l = upB 0 l := by unfold rowChB; rw [dec_t (show 1 ≤ l.length by omega), dec_t (show l.length ≤ 8 by omega)]; rfl
      have Hr := Lib.hid hr
      have hI : decide ((n : Int) < 1) = false := dec_f (by omega)
      have hI8 : decide ((8 : Int) < n) = false := dec_f (by omega)
      clear hr
      go_enter Try.func114, Try.ntmps114
      go_wp2_with fail
      clear hI hI8
      go_loop [3, 16] (fun q i => ∃ (j : Nat) (a : Int), i = .int .i64 j ∧ j ≤ n ∧ q = .int .i64 a ∧ upB 0 l = upB a (l.drop j)) (fun _ i => n - (intOf i).toNat)
      case atStart => exact ⟨0, 0, rfl, by omega, rfl, rfl⟩
      case round =>
        obtain ⟨j, a, rfl, hj, rfl, hf⟩ := hrel
        by_cases hjn : j < n
        · obtain ⟨bb, off, rfl, hc⟩ := h.at_ hjn
          rw [List.drop_eq_getElem_cons (show j < l.length by omega), upB_cons] at hf
          generalize l[j]'(by omega) = x at *
          by_cases k1 : a < x
          · by_cases k2 : x ≤ 64
            · rw [dec_t k1, dec_t k2, Bool.true_and, Bool.true_and] at hf
              have HF := Lib.hid hf
              clear hf
              have j1 : decide (x ≤ a) = false := dec_f (by omega)
              have j2 : decide ((64 : Int) < x) = false := dec_f (by omega)
              go_wp2
              go_round
              case rel => exact ⟨j + 1, x, val_int (by omega), by omega, rfl, HF.out⟩
              case measure => simp [intOf]; omega
            · rw [dec_f k2, Bool.and_false, Bool.false_and] at hf
              have HF := Lib.hid (Hr.out.trans hf)
              have j1 : decide (x ≤ a) = false := dec_f (by omega)
              have j2 : (64 : Int) < x := by omega
              clear hf Hr
              go_wp2
              go_ret
              exact ⟨by rw [HF.out] <;> rfl, rfl⟩
          · rw [dec_f k1, Bool.false_and, Bool.false_and] at hf
            have HF := Lib.hid (Hr.out.trans hf)
            have j1 : x ≤ a := by omega
            clear hf Hr
            go_wp2
            go_ret
            exact ⟨by rw [HF.out] <;> rfl, rfl⟩
        · obtain rfl : n = j := by omega
          rw [List.drop_of_length_le (by omega), upB_nil] at hf
          have HF := Lib.hid (Hr.out.trans hf)
          clear hf Hr
          go_wp2
          go_ret
          exact ⟨by rw [HF.out] <;> rfl, rfl⟩

set_option maxRecDepth 100000 in
set_option maxHeartbeats 800000 in
theorem cmd_Chunks_no (A : Option Addr) (n c : Nat) (l : List Int) (w : World) (h : Is w A n l) (hn : n ≤ 1000000) (hr : rowChB l = false) :
    Calls Try.prog 92 #[.slice A n c] w fun e w' => e = .returned (.tuple #[.slice none 0 0, .int .i64 1]) ∧ w = w' := by
  have H := cmd_row A n c l w h hn
  rw [hr] at H
  have HR := Lib.hid H
  clear H hr
  go_enter Try.func92, Try.ntmps92
  go_wp2_with fail
  refine HR.out.mono ?_
  rintro e w1 ⟨rfl, rfl⟩
  go_wp2
  go_ret2
  exact ⟨rfl, rfl⟩
set_option maxRecDepth 100000 in
set_option maxHeartbeats 800000 in
theorem cmd_Chunks_ok (A : Option Addr) (n c : Nat) (l : List Int) (w : World) (h : Is w A n l) (hr : rowChB l = true) :
    Calls Try.prog 92 #[.slice A n c] w fun e w' => ∃ v, e = .returned (.tuple #[v, .int .i64 0]) ∧ w'.ownsRow w.heap.size 5 1 v (chput l).length ((chput l).map bv) ∧ Ext w w' := by
  have hlen := h.len
  have hr2 := hr
  unfold rowChB at hr2
  simp only [Bool.and_eq_true, decide_eq_true_eq] at hr2
  have hup := upB_in hr2.2
  have hn8 : n ≤ 8 := by omega
  have H := cmd_row A n c l w h (by omega)
  rw [hr] at H
  have HR := Lib.hid H
  have Hup := Lib.hid hup
  have h0 := World.ownsRow_nil w w.heap.size 5 1
  clear H hr hr2 hup
  go_enter Try.func92, Try.ntmps92
  go_wp2_with fail
  refine HR.out.mono ?_
  rintro e w1 ⟨rfl, rfl⟩
  go_wp2_with fail
  go_loopw [4, 12] (fun v i wr => ∃ j : Nat, i = .int .i64 j ∧ j ≤ n ∧ wr.ownsRow w.heap.size 5 1 v (chput (l.take j)).length ((chput (l.take j)).map bv) ∧ Ext w wr) (fun _ i _ => n - (intOf i).toNat)
  case atStart => exact ⟨0, rfl, by omega, by simpa [chput] using h0, Ext.refl w⟩
  case round =>
    clear h0
    obtain ⟨j, rfl, hj, hown, hx⟩ := hrel
    by_cases hjn : j < n
    · have hjl : j < l.length := by omega
      obtain ⟨bb, off, rfl, hc⟩ := (h.ext hx).at_ hjn
      have hxb := Hup.out l[j] (List.getElem_mem _)
      have hsn := chput_snoc l j hjl
      have hle : (chput (l.take j)).length ≤ (l.take j).length * 10 := chput_le (fun x hx => (Hup.out x (List.mem_of_mem_take hx)).2)
      have hle2 : (l.take j).length ≤ j := List.length_take_le _ _
      obtain ⟨x, hx0⟩ := Int.eq_ofNat_of_zero_le (show 0 ≤ l[j] by omega)
      rw [hx0] at hc hsn hxb
      have hU : U64 x := by unfold U64; omega
      have hQ : (vput x).length ≤ 10 := by rw [vput_len]; exact hU.size
      have HP := Lib.hid (varint_Put x hU wr)
      rw [Int.toNat_natCast] at hsn
      generalize chput (l.take j) = R at *
      generalize vput x = V at *
      have Hsn := Lib.hid hsn
      have hsz := hx.size
      have hwx : IntKind.u64.wrap (x : Int) = x := hU.wrap
      clear hsn hx0
      go_wp2_with fail
      refine HP.out.mono ?_
      rintro e w2 ⟨v2, rfl, hown2, y2⟩
      obtain ⟨A2, k2, rfl, _⟩ := own_form hown2
      have b2 := Rd.of_own hown2
      have hown' := own_ext hown y2
      have hz2 := y2.size
      go_wp2_with (at_builtin; refine wpList_app bytesT (by omega) _ rfl rfl rfl hown' rfl b2 (bvs_one _) (by unfold maxLen; omega) (by omega) (by omega) ?_; intro v3 w3 hown3 hg3 hat3)
      go_roundw
      case rel => exact ⟨j + 1, val_int (by omega), by omega, own_to hown3 (Nat.le_refl _) (by rw [Hsn.out, List.length_append]) (by rw [Hsn.out, List.map_append]), Below.app (hx.trans y2) hg3 (by omega) hown' (Nat.le_refl _)⟩
      case measure => simp [intOf]; omega
    · obtain rfl : n = j := by omega
      rw [List.take_of_length_le (by omega)] at hown
      go_wp2
      go_ret2
      exact ⟨_, rfl, hown, hx⟩
theorem cmd_Chunks_e (A : Option Addr) (n c : Nat) (l : List Int) (w : World) (h : Is w A n l) (hn : n ≤ 1000000) (b : Bool) (hr : rowChB l = b) :
    Calls Try.prog 92 #[.slice A n c] w fun e w' => ∃ v, e = .returned (.tuple #[v, .int .i64 (if b then 0 else 1)]) ∧ Ext w w' := by
  rcases b with _ | _
  · exact (cmd_Chunks_no A n c l w h hn hr).mono fun e w' ⟨he, hw⟩ => ⟨_, he, hw ▸ Ext.refl w⟩
  · exact (cmd_Chunks_ok A n c l w h hr).mono fun e w' ⟨v, he, _, hx⟩ => ⟨v, he, hx⟩
end Go.Proofs.Ytiildgoaiookhaa

/- The walks of state.snaps and state.May. -/
namespace Go.Proofs.Ytiildgoaiookhaa
open Go.RowKit

/-- may a snapshot be, but for its number -/
def snB (ver lim : Int) (f : NV) : Bool := rowChB f.ch && (inI f.set 1 8 && ((!f.held || decide (2 ≤ ver)) && decide ((f.tag.size : Int) ≤ lim)))
theorem snB_ok {ver lim : Int} {f : NV} : snB ver lim f = true ↔ rowChB f.ch = true ∧ inI f.set 1 8 = true ∧ (f.held = true → 2 ≤ ver) ∧ (f.tag.size : Int) ≤ lim := by
  unfold snB
  rcases h : f.held with _ | _ <;> simp

set_option maxRecDepth 100000 in
set_option maxHeartbeats 1600000 in
theorem st_snaps1 (f : NV) (ver lim : Int) (p q : Nat) (b : Bool) (hb : snB ver lim f = b) (w : World) (hf : f.Ok w) (hl : f.len ≤ 1000000) (hp : w.cell? ⟨p, 0, none⟩ = some (.int .i64 ver)) (hq : w.cell? ⟨q, 0, none⟩ = some (.int .i64 lim)) :
    Calls Try.prog 91 #[.agg f.cells.toArray, .pointer (some ⟨p, 0, none⟩), .pointer (some ⟨q, 0, none⟩)] w fun e w' => e = .returned (.bool b) ∧ Ext w w' := by
  have hcs := hf.cs
  obtain ⟨a, s, A, ln, cp, ch, hd, tg⟩ := f
  unfold NV.cells
  unfold snB at hb
  dsimp only at hb hcs hl ⊢
  have hB := Blk.new w 33 [.int .i64 a, .int .i64 s, .slice A ln cp, .bool hd, .string tg]
  have xa : Ext w (w.alloc (.cells #[.int .i64 a, .int .i64 s, .slice A ln cp, .bool hd, .string tg] 33)) := (Ext.refl w).alloc _
  have HC := Lib.hid (fun b hb => cmd_Chunks_e A ln cp ch _ (hcs.ext xa) hl b hb)
  have HW := Lib.hid (fun b hb w => st_within s 1 8 b hb w)
  have hpp := xa.cell hp
  have hqq := xa.cell hq
  clear hf hcs hp hq
  generalize rowChB ch = b1 at *
  generalize inI s 1 8 = b2 at *
  rcases b1 with _ | _
  · simp only [Bool.false_and] at hb
    subst hb
    have HC2 := Lib.hid (HC.out _ rfl)
    clear HC HW
    go_enter Try.func91, Try.ntmps91
    go_wp2_with fail
    refine HC2.out.mono ?_
    rintro e w1 ⟨v, rfl, y1⟩
    go_wp2
    go_ret
    exact ⟨rfl, xa.trans y1⟩
  · have HC2 := Lib.hid (HC.out _ rfl)
    rw [Bool.true_and] at hb
    rcases b2 with _ | _
    · simp only [Bool.false_and] at hb
      subst hb
      have HW2 := Lib.hid (HW.out _ rfl)
      clear HC HW
      go_enter Try.func91, Try.ntmps91
      go_wp2_with fail
      refine HC2.out.mono ?_
      rintro e w1 ⟨v, rfl, y1⟩
      have hB1 := hB.ext y1
      have d1 := hB1.cell 1
      simp only [List.getElem?_cons_zero, List.getElem?_cons_succ] at d1
      go_wp2_with (go_at_call 42; refine (HW2.out _).mono ?_; rintro e w2 ⟨rfl, rfl⟩)
      go_ret
      exact ⟨rfl, xa.trans y1⟩
    · rw [Bool.true_and] at hb
      have HW2 := Lib.hid (HW.out _ rfl)
      clear HC HW
      by_cases hv : hd = true ∧ ver < 2
      · obtain ⟨rfl, hv⟩ := hv
        have hv' : decide (2 ≤ ver) = false := dec_f (by omega)
        rw [hv'] at hb
        simp only [Bool.not_true, Bool.or_self, Bool.false_and] at hb
        subst hb
        go_enter Try.func91, Try.ntmps91
        go_wp2_with fail
        refine HC2.out.mono ?_
        rintro e w1 ⟨v, rfl, y1⟩
        have hB1 := hB.ext y1
        have d1 := hB1.cell 1
        have d3 := hB1.cell 3
        have p1 := y1.cell hpp
        simp only [List.getElem?_cons_zero, List.getElem?_cons_succ] at d1 d3
        go_wp2_with (go_at_call 42; refine (HW2.out _).mono ?_; rintro e w2 ⟨rfl, rfl⟩)
        go_ret
        exact ⟨rfl, xa.trans y1⟩
      · have hb' : decide ((tg.size : Int) ≤ lim) = b := by
          have : (!hd || decide (2 ≤ ver)) = true := by
            rcases hd with _ | _
            · rfl
            · rw [dec_t (show 2 ≤ ver by simp at hv; omega)]; rfl
          rw [this, Bool.true_and] at hb
          exact hb
        have hg : hd = false ∨ hd = true ∧ 2 ≤ ver := by
          rcases hd with _ | _
          · exact .inl rfl
          · exact .inr ⟨rfl, by simp at hv; omega⟩
        clear hb hv
        rcases hg with rfl | ⟨rfl, hv⟩
        · go_enter Try.func91, Try.ntmps91
          go_wp2_with fail
          refine HC2.out.mono ?_
          rintro e w1 ⟨v, rfl, y1⟩
          have hB1 := hB.ext y1
          have d1 := hB1.cell 1
          have d3 := hB1.cell 3
          have d4 := hB1.cell 4
          have p1 := y1.cell hpp
          have p2 := y1.cell hqq
          simp only [List.getElem?_cons_zero, List.getElem?_cons_succ] at d1 d3 d4
          go_wp2_with (go_at_call 42; refine (HW2.out _).mono ?_; rintro e w2 ⟨rfl, rfl⟩)
          go_ret
          exact ⟨rfl, xa.trans y1⟩
        · have hv' : decide (2 ≤ ver) = true := dec_t hv
          go_enter Try.func91, Try.ntmps91
          go_wp2_with fail
          refine HC2.out.mono ?_
          rintro e w1 ⟨v, rfl, y1⟩
          have hB1 := hB.ext y1
          have d1 := hB1.cell 1
          have d3 := hB1.cell 3
          have d4 := hB1.cell 4
          have p1 := y1.cell hpp
          have p2 := y1.cell hqq
          simp only [List.getElem?_cons_zero, List.getElem?_cons_succ] at d1 d3 d4
          go_wp2_with (go_at_call 42; refine (HW2.out _).mono ?_; rintro e w2 ⟨rfl, rfl⟩)
          go_ret
          exact ⟨rfl, xa.trans y1⟩

set_option maxRecDepth 100000 in
set_option maxHeartbeats 800000 in
theorem st_allSnap (A : Option Addr) (n c : Nat) (l : List NV) (ver lim : Int) (p q : Nat) (w : World) (h : Ts w A n l) (hn : n ≤ 1000000) (hlen' : ∀ f ∈ l, f.len ≤ 1000000) (hp : w.cell? ⟨p, 0, none⟩ = some (.int .i64 ver)) (hq : w.cell? ⟨q, 0, none⟩ = some (.int .i64 lim)) :
    Calls Try.prog 90 #[.slice A n c, .func (.func 91) #[] #[.pointer (some ⟨p, 0, none⟩), .pointer (some ⟨q, 0, none⟩)]] w fun e w' => e = .returned (.bool (l.all (snB ver lim))) ∧ Ext w w' := by
  have hlen := h.len
  have Hlen := Lib.hid hlen'
  clear hlen'
  go_enter Try.func90, Try.ntmps90
  go_wp2_with fail
  go_loopw [9] (fun i wr => ∃ j : Nat, i = .int .i64 j ∧ j ≤ n ∧ l.all (snB ver lim) = (l.drop j).all (snB ver lim) ∧ Ext w wr) (fun i _ => n - (intOf i).toNat)
  case atStart => exact ⟨0, rfl, by omega, rfl, Ext.refl w⟩
  case round =>
    obtain ⟨j, rfl, hj, hf, hx⟩ := hrel
    by_cases hjn : j < n
    · obtain ⟨bb, off, rfl, hlt, hc⟩ := (h.ext hx).at_ hjn
      have hok : NV.Ok (l[j]'(by omega)) wr := (h.ext hx).ok (l[j]'(by omega)) (List.getElem_mem _)
      have hl1 := Hlen.out (l[j]'(by omega)) (List.getElem_mem _)
      rw [List.drop_eq_getElem_cons (show j < l.length by omega), List.all_cons] at hf
      generalize l[j]'(by omega) = f at *
      have c0 : wr.cell? ⟨bb, off + j * 5, none⟩ = some (.int .i64 f.id) := hc 0 (by omega)
      have c1 : wr.cell? ⟨bb, off + j * 5 + 1, none⟩ = some (.int .i64 f.set) := hc 1 (by omega)
      have c2 : wr.cell? ⟨bb, off + j * 5 + 2, none⟩ = some (.slice f.A f.len f.cap) := hc 2 (by omega)
      have c3 : wr.cell? ⟨bb, off + j * 5 + 3, none⟩ = some (.bool f.held) := hc 3 (by omega)
      have c4 : wr.cell? ⟨bb, off + j * 5 + 4, none⟩ = some (.string f.tag) := hc 4 (by omega)
      have xa : Ext wr (wr.alloc (.cells #[.int .i64 f.id, .int .i64 f.set, .slice f.A f.len f.cap, .bool f.held, .string f.tag] 33)) := (Ext.refl wr).alloc _
      have HW := Lib.hid (fun b hb => st_snaps1 f ver lim p q b hb _ (hok.ext xa) hl1 ((hx.trans xa).cell hp) ((hx.trans xa).cell hq))
      clear hc hok
      rcases hb : snB ver lim f with _ | _
      · rw [hb, Bool.false_and] at hf
        have HF := Lib.hid hf
        have HW2 := Lib.hid (HW.out _ hb)
        clear hf hb HW
        go_wp2_with (go_at_call 91; refine HW2.out.mono ?_; rintro e w1 ⟨rfl, yw1⟩)
        go_ret
        exact ⟨by rw [HF.out] <;> rfl, (hx.trans xa).trans yw1⟩
      · rw [hb, Bool.true_and] at hf
        have HF := Lib.hid hf
        have HW2 := Lib.hid (HW.out _ hb)
        clear hf hb HW
        go_wp2_with (go_at_call 91; refine HW2.out.mono ?_; rintro e w1 ⟨rfl, yw1⟩)
        go_roundw
        case rel => exact ⟨j + 1, val_int (by omega), by omega, HF.out, (hx.trans xa).trans yw1⟩
        case measure => simp [intOf]; omega
    · obtain rfl : n = j := by omega
      rw [List.drop_of_length_le (by omega), List.all_nil] at hf
      have H1 := Lib.hid hf
      clear hf
      go_wp2
      go_ret
      exact ⟨by rw [H1.out] <;> rfl, hx⟩
end Go.Proofs.Ytiildgoaiookhaa

/- The walk of state.May. -/
namespace Go.Proofs.Ytiildgoaiookhaa
open Go.RowKit

def tagLim (ver : Int) : Int := if ver < 3 then 0 else 16
/-- may the snapshots of a catalogue be -/
def snsB (ver next : Int) (l : List NV) : Bool := decide (l.length ≤ 16) && (risB NV.id (next - 1) 0 l && l.all (snB ver (tagLim ver)))

set_option maxRecDepth 100000 in
set_option maxHeartbeats 1600000 in
theorem st_snaps (s : KV) (ver : Int) (b : Bool) (hb : snsB ver s.next s.sns = b) (w : World) (hs : s.Ok w) (hn : s.n3 ≤ 1000000) (hl : ∀ f ∈ s.sns, f.len ≤ 1000000) (h1 : 1 ≤ s.next) (h2 : s.next ≤ 1048576) :
    Calls Try.prog 51 #[s.val, .int .i64 ver] w fun e w' => e = .returned (.bool b) ∧ Ext w w' := by
  have ht := hs.t3
  obtain ⟨ver_, next, keep, quota, A1, n1, c1, ses, A2, n2, c2, ops, A3, n3, c3, sns⟩ := s
  unfold KV.val
  unfold snsB at hb
  dsimp only at hb hn ht hl h1 h2 ⊢
  have hlen := ht.len
  have hB0 := (Blk.new w 26 [.int .i64 ver_, .int .i64 next, .int .i64 keep, .int .i64 quota, .slice A1 n1 c1, .slice A2 n2 c2, .slice A3 n3 c3]).alloc (.cells #[.int .i64 ver] 3)
  have hV0 := Blk.new (w.alloc (.cells #[.int .i64 ver_, .int .i64 next, .int .i64 keep, .int .i64 quota, .slice A1 n1 c1, .slice A2 n2 c2, .slice A3 n3 c3] 26)) 3 [.int .i64 ver]
  rw [show (w.alloc (.cells #[.int .i64 ver_, .int .i64 next, .int .i64 keep, .int .i64 quota, .slice A1 n1 c1, .slice A2 n2 c2, .slice A3 n3 c3] 26)).heap.size = w.heap.size + 1 by simp] at hV0
  have xa : Ext w ((w.alloc (.cells #[.int .i64 ver_, .int .i64 next, .int .i64 keep, .int .i64 quota, .slice A1 n1 c1, .slice A2 n2 c2, .slice A3 n3 c3] 26)).alloc (.cells #[.int .i64 ver] 3)) := ((Ext.refl w).alloc _).alloc _
  have HR := Lib.hid (st_risingSnap A3 n3 c3 sns (next - 1) _ (ht.ext xa) hn (by omega))
  have hwr : IntKind.i64.wrap (next - 1) = next - 1 := IntWalk.i64_in _ (by omega)
  have Hl := Lib.hid hl
  clear hs hl
  by_cases h16 : 16 < n3
  · rw [dec_f (show ¬ sns.length ≤ 16 by omega), Bool.false_and] at hb
    subst hb
    have hI : (16 : Int) < n3 := by omega
    clear HR
    go_enter Try.func51, Try.ntmps51
    go_wp2
    go_ret
    exact ⟨rfl, xa⟩
  · rw [dec_t (show sns.length ≤ 16 by omega), Bool.true_and] at hb
    have hI : decide ((16 : Int) < n3) = false := dec_f (by omega)
    rcases hr : risB NV.id (next - 1) 0 sns with _ | _
    · rw [hr, Bool.false_and] at hb
      subst hb
      rw [hr] at HR
      clear hr
      go_enter Try.func51, Try.ntmps51
      go_wp2_with fail
      refine HR.out.mono ?_
      rintro e w1 ⟨rfl, y1⟩
      go_wp2
      go_ret
      exact ⟨rfl, xa.trans y1⟩
    · rw [hr, Bool.true_and] at hb
      rw [hr] at HR
      clear hr
      by_cases hv : ver < 3
      · have hlim : tagLim ver = 0 := by unfold tagLim; rw [if_pos hv]
        rw [hlim] at hb
        have Hb := Lib.hid hb
        clear hb hlim
        go_enter Try.func51, Try.ntmps51
        go_wp2_with fail
        refine HR.out.mono ?_
        rintro e w1 ⟨rfl, y1⟩
        have hB1 := hB0.ext y1
        have hV1 := hV0.ext y1
        have d6 := hB1.cell 6
        have v0 := hV1.cell 0
        simp only [List.getElem?_cons_zero, List.getElem?_cons_succ] at d6 v0
        have xb := xa.trans y1
        have hlt1 := hV1.lt
        have hlt0 := hB1.lt
        have hL : Blk (w1.alloc (.cells #[.int .i64 0] 3)) w1.heap.size 3 [.int .i64 0] := Blk.new w1 3 [.int .i64 0]
        have hq := hL.cell 0
        simp only [List.getElem?_cons_zero] at hq
        have HA := Lib.hid (st_allSnap A3 n3 c3 sns ver 0 (w.heap.size + 1) w1.heap.size _ (ht.ext (xb.alloc (.cells #[.int .i64 0] 3))) hn Hl.out (((Ext.refl w1).alloc (.cells #[.int .i64 0] 3)).cell v0) hq)
        clear hB0 hV0 hB1 hV1 hL hq HR
        go_wp2_with fail
        refine HA.out.mono ?_
        rintro e w2 ⟨rfl, y2⟩
        go_wp2
        go_ret
        exact ⟨by rw [Hb.out] <;> rfl, (xb.alloc _).trans y2⟩
      · have hlim : tagLim ver = 16 := by unfold tagLim; rw [if_neg hv]
        rw [hlim] at hb
        have Hb := Lib.hid hb
        have hv' : decide (ver < 3) = false := dec_f hv
        clear hb hlim hv
        go_enter Try.func51, Try.ntmps51
        go_wp2_with fail
        refine HR.out.mono ?_
        rintro e w1 ⟨rfl, y1⟩
        have hB1 := hB0.ext y1
        have hV1 := hV0.ext y1
        have d6 := hB1.cell 6
        have v0 := hV1.cell 0
        simp only [List.getElem?_cons_zero, List.getElem?_cons_succ] at d6 v0
        have xb := xa.trans y1
        have hlt1 := hV1.lt
        have hlt0 := hB1.lt
        have hL : Blk (w1.alloc (.cells #[.int .i64 16] 3)) w1.heap.size 3 [.int .i64 16] := Blk.new w1 3 [.int .i64 16]
        have hq := hL.cell 0
        simp only [List.getElem?_cons_zero] at hq
        have HA := Lib.hid (st_allSnap A3 n3 c3 sns ver 16 (w.heap.size + 1) w1.heap.size _ (ht.ext (xb.alloc (.cells #[.int .i64 16] 3))) hn Hl.out (((Ext.refl w1).alloc (.cells #[.int .i64 16] 3)).cell v0) hq)
        clear hB0 hV0 hB1 hV1 hL hq HR
        go_wp2_with fail
        refine HA.out.mono ?_
        rintro e w2 ⟨rfl, y2⟩
        go_wp2
        go_ret
        exact ⟨by rw [Hb.out] <;> rfl, (xb.alloc _).trans y2⟩

def quotaLim (ver : Int) : Int := if ver < 3 then 0 else 64
def numB (s : KV) (ver : Int) : Bool := inI s.ver 1 3 && (inI s.next 1 1048576 && (inI s.keep 0 8 && inI s.quota 0 (quotaLim ver)))
def sesOk (l : List CV) : Bool := risB CV.client 8 0 l && l.all sesB
def opsOk (l : List OV) : Bool := risB OV.set 8 0 l && l.all opnB
def codeB (b : Bool) : Nat := if b then 0 else 6
/-- may a catalogue be at a version: an error's number -/
def kmay (s : KV) (ver : Int) : Nat := if inI ver 1 3 = false then 1 else codeB (((numB s ver && sesOk s.ses) && opsOk s.ops) && snsB ver s.next s.sns)

set_option maxRecDepth 100000 in
set_option maxHeartbeats 3200000 in
theorem st_May (s : KV) (ver : Int) (w : World) (hs : s.Ok w) (hn1 : s.n1 ≤ 1000000) (hn2 : s.n2 ≤ 1000000) (hn3 : s.n3 ≤ 1000000) (hl : ∀ f ∈ s.sns, f.len ≤ 1000000) :
    Calls Try.prog 17 #[s.val, .int .i64 ver] w fun e w' => e = .returned (.int .i64 (kmay s ver)) ∧ Ext w w' := by
  have ht1 := hs.t1
  have ht2 := hs.t2
  have HSn := Lib.hid (fun (w' : World) (h : Ext w w') h1 h2 => st_snaps s ver _ rfl w' (hs.ext h) hn3 hl h1 h2)
  clear hs
  unfold kmay numB
  obtain ⟨ver_, next, keep, quota, A1, n1, c1, ses, A2, n2, c2, ops, A3, n3, c3, sns⟩ := s
  unfold KV.val at HSn ⊢
  dsimp only at hn1 hn2 ht1 ht2 HSn ⊢
  have hB0 := Blk.new w 26 [.int .i64 ver_, .int .i64 next, .int .i64 keep, .int .i64 quota, .slice A1 n1 c1, .slice A2 n2 c2, .slice A3 n3 c3]
  have xa : Ext w (w.alloc (.cells #[.int .i64 ver_, .int .i64 next, .int .i64 keep, .int .i64 quota, .slice A1 n1 c1, .slice A2 n2 c2, .slice A3 n3 c3] 26)) := (Ext.refl w).alloc _
  have HW0 := Lib.hid (fun b hb w => st_within ver 1 3 b hb w)
  rcases hv : inI ver 1 3 with _ | _
  · have H := Lib.hid (HW0.out _ hv)
    simp only [if_true]
    clear HW0 hv HSn
    go_enter Try.func17, Try.ntmps17
    go_wp2_with (go_at_call 42; refine (H.out _).mono ?_; rintro e w1 ⟨rfl, rfl⟩)
    go_ret
    exact ⟨rfl, xa⟩
  · have H := Lib.hid (HW0.out _ hv)
    obtain ⟨v1, v3⟩ := inI_iff.1 hv
    rw [if_neg (show ¬ true = false by simp)]
    clear HW0 hv
    go_enter Try.func17, Try.ntmps17
    go_upto_if 13 with (go_at_call 42; refine (H.out _).mono ?_; rintro e w1 ⟨rfl, rfl⟩)
    generalize (w.alloc (.cells #[.int .i64 ver_, .int .i64 next, .int .i64 keep, .int .i64 quota, .slice A1 n1 c1, .slice A2 n2 c2, .slice A3 n3 c3] 26)) = W0 at *
    go_cut [5] (fun s5 wx => s5 = .int .i64 (quotaLim ver) ∧ W0 = wx)
    case first =>
      clear HSn
      by_cases h3 : ver < 3
      · go_wp2_with fail
        go_meet
        exact ⟨by unfold quotaLim; rw [if_pos h3], rfl⟩
      · have h3' : decide (ver < 3) = false := dec_f h3
        go_wp2_with fail
        go_meet
        exact ⟨by unfold quotaLim; rw [if_neg (by omega)], rfl⟩
    case rest =>
      obtain ⟨rfl, rfl⟩ := hcut
      have N1 := Lib.hid (fun b hb w => st_within ver_ 1 3 b hb w)
      have N2 := Lib.hid (fun b hb w => st_within next 1 1048576 b hb w)
      have N3 := Lib.hid (fun b hb w => st_within keep 0 8 b hb w)
      have N4 := Lib.hid (fun b hb w => st_within quota 0 (quotaLim ver) b hb w)
      have hnx : inI next 1 1048576 = true → 1 ≤ next ∧ next ≤ 1048576 := inI_iff.1
      have d0 := hB0.cell 0
      have d1 := hB0.cell 1
      have d2 := hB0.cell 2
      have d3 := hB0.cell 3
      simp only [List.getElem?_cons_zero, List.getElem?_cons_succ] at d0 d1 d2 d3
      have Hnx := Lib.hid hnx
      clear hnx H
      generalize e1 : inI ver_ 1 3 = b1 at *
      generalize e2 : inI next 1 1048576 = b2 at *
      generalize e3 : inI keep 0 8 = b3 at *
      generalize e4 : inI quota 0 (quotaLim ver) = b4 at *
      have EE : Hid ((inI ver_ 1 3 && (inI next 1 1048576 && (inI keep 0 8 && inI quota 0 (quotaLim ver)))) = (b1 && (b2 && (b3 && b4)))) := Lib.hid (by rw [e1, e2, e3, e4])
      clear e1 e2 e3 e4
      generalize quotaLim ver = ql at N4 ⊢
      go_upto_region 6 with fail
      go_cut [6] (fun s6 wx => s6 = .bool (b1 && (b2 && (b3 && b4))) ∧ W0 = wx)
      case first =>
        clear HSn Hnx
        rcases b1 with _ | _
        · have M1 := Lib.hid (N1.out _ rfl)
          clear N1 N2 N3 N4
          go_wp2_with (go_at_call 42; refine (M1.out _).mono ?_; rintro e w1 ⟨rfl, rfl⟩)
          go_meet
          exact ⟨rfl, rfl⟩
        · have M1 := Lib.hid (N1.out _ rfl)
          rcases b2 with _ | _
          · have M2 := Lib.hid (N2.out _ rfl)
            clear N1 N2 N3 N4
            go_wp2_with (first
              | (go_at_call 42; ((with_reducible refine (M1.out _).mono ?_); rintro e w1 ⟨rfl, rfl⟩))
              | (go_at_call 42; ((with_reducible refine (M2.out _).mono ?_); rintro e w1 ⟨rfl, rfl⟩)))
            go_meet
            exact ⟨rfl, rfl⟩
          · have M2 := Lib.hid (N2.out _ rfl)
            rcases b3 with _ | _
            · have M3 := Lib.hid (N3.out _ rfl)
              clear N1 N2 N3 N4
              go_wp2_with (first
                | (go_at_call 42; ((with_reducible refine (M1.out _).mono ?_); rintro e w1 ⟨rfl, rfl⟩))
                | (go_at_call 42; ((with_reducible refine (M2.out _).mono ?_); rintro e w1 ⟨rfl, rfl⟩))
                | (go_at_call 42; ((with_reducible refine (M3.out _).mono ?_); rintro e w1 ⟨rfl, rfl⟩)))
              go_meet
              exact ⟨rfl, rfl⟩
            · have M3 := Lib.hid (N3.out _ rfl)
              have M4 := Lib.hid (N4.out _ rfl)
              clear N1 N2 N3 N4
              go_wp2_with (first
                | (go_at_call 42; ((with_reducible refine (M1.out _).mono ?_); rintro e w1 ⟨rfl, rfl⟩))
                | (go_at_call 42; ((with_reducible refine (M2.out _).mono ?_); rintro e w1 ⟨rfl, rfl⟩))
                | (go_at_call 42; ((with_reducible refine (M3.out _).mono ?_); rintro e w1 ⟨rfl, rfl⟩))
                | (go_at_call 42; ((with_reducible refine (M4.out _).mono ?_); rintro e w1 ⟨rfl, rfl⟩)))
              go_meet
              exact ⟨rfl, rfl⟩
      case rest =>
        obtain ⟨rfl, rfl⟩ := hcut
        clear N1 N2 N3 N4 d0 d1 d2 d3
        have Hnx2 : Hid ((b1 && (b2 && (b3 && b4))) = true → 1 ≤ next ∧ next ≤ 1048576) := Lib.hid (fun h => by
          simp only [Bool.and_eq_true] at h
          exact Hnx.out h.2.1)
        clear Hnx
        generalize (b1 && (b2 && (b3 && b4))) = nb at *
        have d4 := hB0.cell 4
        simp only [List.getElem?_cons_zero, List.getElem?_cons_succ] at d4
        have R1 := Lib.hid (st_risingSess A1 n1 c1 ses 8 _ (ht1.ext xa) hn1 (by omega))
        have A1' := Lib.hid (fun (w' : World) (h : Ext W0 w') => st_allSess A1 n1 c1 ses w' ((ht1.ext xa).ext h) hn1)
        go_upto_region 7 with fail
        go_cut [7] (fun s7 wx => s7 = .bool (sesOk ses) ∧ Ext W0 wx)
        case first =>
          rcases hr : risB CV.client 8 0 ses with _ | _
          · rw [hr] at R1
            have Hr := Lib.hid hr
            clear hr A1'
            go_wp2_with fail
            refine R1.out.mono ?_
            rintro e w1 ⟨rfl, y1⟩
            go_wp2_with fail
            go_meet
            exact ⟨by unfold sesOk; rw [Hr.out] <;> rfl, y1⟩
          · rw [hr] at R1
            have Hr := Lib.hid hr
            clear hr
            go_wp2_with fail
            refine R1.out.mono ?_
            rintro e w1 ⟨rfl, y1⟩
            have d4' := y1.cell d4
            go_wp2_with fail
            refine (A1'.out _ y1).mono ?_
            rintro e w2 ⟨rfl, y2⟩
            have Hab : Hid (sesOk ses = ses.all sesB) := Lib.hid (by unfold sesOk; rw [Hr.out, Bool.true_and])
            generalize ses.all sesB = ab at *
            clear Hr
            go_wp2_with fail
            go_meet
            exact ⟨by rw [Hab.out], y1.trans y2⟩
        case rest =>
          obtain ⟨rfl, y1⟩ := hcut
          generalize es : sesOk ses = sb at *
          have ES := Lib.hid es
          clear es
          obtain ⟨W1, rfl⟩ : ∃ W1 : World, W1 = wc := ⟨_, rfl⟩
          have hB1 := hB0.ext y1
          have xb := xa.trans y1
          have d5 := hB1.cell 5
          simp only [List.getElem?_cons_zero, List.getElem?_cons_succ] at d5
          have R2 := Lib.hid (st_risingOpen A2 n2 c2 ops 8 _ (ht2.ext xb) hn2 (by omega))
          have A2' := Lib.hid (fun (w' : World) (h : Ext W1 w') => st_allOpen A2 n2 c2 ops w' ((ht2.ext xb).ext h) hn2)
          clear hB0 R1 A1' d4 ht1 ht2 xa y1
          go_upto_region 8 with fail
          go_cut [8] (fun s8 wx => s8 = .bool (opsOk ops) ∧ Ext W1 wx)
          case first =>
            rcases hr : risB OV.set 8 0 ops with _ | _
            · rw [hr] at R2
              have Hr := Lib.hid hr
              clear hr A2'
              go_wp2_with fail
              refine R2.out.mono ?_
              rintro e w1 ⟨rfl, y1⟩
              go_wp2_with fail
              go_meet
              exact ⟨by unfold opsOk; rw [Hr.out] <;> rfl, y1⟩
            · rw [hr] at R2
              have Hr := Lib.hid hr
              clear hr
              go_wp2_with fail
              refine R2.out.mono ?_
              rintro e w1 ⟨rfl, y1⟩
              have d5' := y1.cell d5
              go_wp2_with fail
              refine (A2'.out _ y1).mono ?_
              rintro e w2 ⟨rfl, y2⟩
              have Hab : Hid (opsOk ops = ops.all opnB) := Lib.hid (by unfold opsOk; rw [Hr.out, Bool.true_and])
              generalize ops.all opnB = ab at *
              clear Hr
              go_wp2_with fail
              go_meet
              exact ⟨by rw [Hab.out], y1.trans y2⟩
          case rest =>
            obtain ⟨rfl, y2⟩ := hcut
            generalize eo : opsOk ops = ob at *
            have EO := Lib.hid eo
            clear eo
            have hB2 := hB1.ext y2
            have xc := xb.trans y2
            have d0 := hB2.cell 0
            have d1 := hB2.cell 1
            have d2 := hB2.cell 2
            have d3 := hB2.cell 3
            have d4 := hB2.cell 4
            have d5' := hB2.cell 5
            have d6 := hB2.cell 6
            simp only [List.getElem?_cons_zero, List.getElem?_cons_succ] at d0 d1 d2 d3 d4 d5' d6
            clear hB1 hB2 R2 A2' d5 xb y2
            rcases nb with _ | _
            · clear HSn
              go_wp2
              go_ret
              exact ⟨by rw [EE.out] <;> rfl, xc⟩
            · obtain ⟨x1, x2⟩ := Hnx2.out rfl
              rcases sb with _ | _
              · clear HSn
                go_wp2
                go_ret
                exact ⟨by rw [EE.out, ES.out] <;> rfl, xc⟩
              · rcases ob with _ | _
                · clear HSn
                  go_wp2
                  go_ret
                  exact ⟨by rw [EE.out, ES.out, EO.out] <;> rfl, xc⟩
                · have HS2 := Lib.hid (HSn.out _ xc x1 x2)
                  generalize en : snsB ver next sns = nb at *
                  have EN := Lib.hid en
                  clear en
                  clear HSn Hnx2
                  go_wp2_with fail
                  refine HS2.out.mono ?_
                  rintro e w1 ⟨rfl, y3⟩
                  rcases nb with _ | _
                  · go_wp2
                    go_ret
                    exact ⟨by rw [EE.out, ES.out, EO.out, EN.out] <;> rfl, xc.trans y3⟩
                  · go_wp2
                    go_ret
                    exact ⟨by rw [EE.out, ES.out, EO.out, EN.out] <;> rfl, xc.trans y3⟩
end Go.Proofs.Ytiildgoaiookhaa

/- The walks of same, sameSnap, EqualFunc and Same of a catalogue. (The head is printed by wip/tools/stsame.py.) -/
namespace Go.Proofs.Ytiildgoaiookhaa
open Go.RowKit

theorem run_neq_cv (f g : CV) (w : World) : (binOp .neq 45 (.agg #[.int .i64 f.client, .int .i64 f.seq, .int .i64 f.code, .int .i64 f.n]) (.agg #[.int .i64 g.client, .int .i64 g.seq, .int .i64 g.code, .int .i64 g.n])).run Try.prog w = .ok (.bool (!decide (f = g))) w := by
  obtain ⟨a, b, c, d⟩ := f
  obtain ⟨a', b', c', d'⟩ := g
  simp only [go_sem, CV.mk.injEq]
  by_cases h1 : a = a' <;> by_cases h2 : b = b' <;> by_cases h3 : c = c' <;> by_cases h4 : d = d' <;> simp [go_sem, h1, h2, h3, h4]
theorem run_neq_ov (f g : OV) (w : World) : (binOp .neq 47 (.agg #[.int .i64 f.set, .int .i64 f.client]) (.agg #[.int .i64 g.set, .int .i64 g.client])).run Try.prog w = .ok (.bool (!decide (f = g))) w := by
  obtain ⟨a, b⟩ := f
  obtain ⟨a', b'⟩ := g
  simp only [go_sem, OV.mk.injEq]
  by_cases h1 : a = a' <;> by_cases h2 : b = b' <;> simp [go_sem, h1, h2]
theorem take_eq_snoc {α : Type} {l m : List α} {j : Nat} (hl : j < l.length) (hm : j < m.length) (h : l.take j = m.take j) (he : l[j] = m[j]) : l.take (j + 1) = m.take (j + 1) := by
  rw [List.take_succ_eq_append_getElem hl, List.take_succ_eq_append_getElem hm, h, he]
theorem take_ne {α : Type} {l m : List α} {j : Nat} (hl : j < l.length) (hm : j < m.length) (he : l[j] ≠ m[j]) : l ≠ m := by
  rintro rfl; exact he rfl

set_option maxRecDepth 100000 in
set_option maxHeartbeats 800000 in
theorem st_sameSess (A A' : Option Addr) (n n' c c' : Nat) (l m : List CV) (b : Bool) (hb : decide (l = m) = b) (w : World) (h1 : Ts w A n l) (h2 : Ts w A' n' m) (hn : n ≤ 1000000) (hn' : n' ≤ 1000000) :
    Calls Try.prog 52 #[.slice A n c, .slice A' n' c'] w fun e w' => e = .returned (.bool b) ∧ Ext w w' := by
  have hl1 := h1.len
  have hl2 := h2.len
  by_cases hnn : n = n'
  case neg =>
    have hf : b = false := by rw [← hb]; simp; intro e; rw [e] at hl1; omega
    subst hf
    have hk := bne_t (show ((n : Nat) : Int) ≠ n' by omega)
    have hk' := beq_f (show ((n : Nat) : Int) ≠ n' by omega)
    clear hb h1 h2 hl1 hl2
    go_enter Try.func52, Try.ntmps52
    go_wp2
    go_ret
    exact ⟨rfl, Ext.refl w⟩
  subst hnn
  have Hb := Lib.hid hb
  clear hb
  go_enter Try.func52, Try.ntmps52
  go_wp2_with fail
  go_loopw [13] (fun i wr => ∃ j : Nat, i = .int .i64 j ∧ j ≤ n ∧ l.take j = m.take j ∧ Ext w wr) (fun i _ => n - (intOf i).toNat)
  case atStart => exact ⟨0, rfl, by omega, rfl, Ext.refl w⟩
  case round =>
    obtain ⟨j, rfl, hj, hpre, hx⟩ := hrel
    by_cases hjn : j < n
    · have hjl : j < l.length := by omega
      have hjm : j < m.length := by omega
      obtain ⟨bb, off, rfl, hlt, hc⟩ := (h1.ext hx).at_ hjn
      obtain ⟨bb', off', rfl, hlt', hd⟩ := (h2.ext hx).at_ hjn
      have HE := Lib.hid (fun he => take_eq_snoc hjl hjm hpre he)
      have HNe := Lib.hid (fun he => take_ne hjl hjm he)
      generalize l[j] = f at *
      generalize m[j] = g at *
      have c0 : wr.cell? ⟨bb, off + j * 4, none⟩ = some (.int .i64 f.client) := hc 0 (by omega)
      have c1 : wr.cell? ⟨bb, off + j * 4 + 1, none⟩ = some (.int .i64 f.seq) := hc 1 (by omega)
      have c2 : wr.cell? ⟨bb, off + j * 4 + 2, none⟩ = some (.int .i64 f.code) := hc 2 (by omega)
      have c3 : wr.cell? ⟨bb, off + j * 4 + 3, none⟩ = some (.int .i64 f.n) := hc 3 (by omega)
      have d0 : wr.cell? ⟨bb', off' + j * 4, none⟩ = some (.int .i64 g.client) := hd 0 (by omega)
      have d1 : wr.cell? ⟨bb', off' + j * 4 + 1, none⟩ = some (.int .i64 g.seq) := hd 1 (by omega)
      have d2 : wr.cell? ⟨bb', off' + j * 4 + 2, none⟩ = some (.int .i64 g.code) := hd 2 (by omega)
      have d3 : wr.cell? ⟨bb', off' + j * 4 + 3, none⟩ = some (.int .i64 g.n) := hd 3 (by omega)
      clear hc hd
      clear hpre
      have hj0 : (0 : Int) ≤ j := by omega
      have hj1 : (j : Int) < n := by omega
      by_cases he : f = g
      · have H1 := Lib.hid (HE.out he)
        have hq := fun w => run_neq_cv f g w
        rw [show decide (f = g) = true by simp [he]] at hq
        simp only [Bool.not_true] at hq
        clear HE HNe he
        go_wp2
        go_quiet (fail)
        go_wp2
        go_roundw
        case rel => exact ⟨j + 1, val_int (by omega), by omega, H1.out, hx.drewN _⟩
        case measure => simp [intOf]; omega
      · have H1 : Hid (b = false) := Lib.hid (by rw [← Hb.out]; simpa using HNe.out he)
        have hq := fun w => run_neq_cv f g w
        rw [show decide (f = g) = false by simp [he]] at hq
        simp only [Bool.not_false] at hq
        clear HE HNe he
        go_wp2
        go_quiet (fail)
        go_wp2
        go_ret
        exact ⟨by rw [H1.out] <;> rfl, hx.drewN _⟩
    · obtain rfl : n = j := by omega
      rw [List.take_of_length_le (by omega), List.take_of_length_le (by omega)] at hpre
      have H1 : Hid (b = true) := Lib.hid (by rw [← Hb.out, hpre]; simp)
      clear hpre
      go_wp2
      go_ret
      exact ⟨by rw [H1.out] <;> rfl, hx⟩

set_option maxRecDepth 100000 in
set_option maxHeartbeats 800000 in
theorem st_sameOpen (A A' : Option Addr) (n n' c c' : Nat) (l m : List OV) (b : Bool) (hb : decide (l = m) = b) (w : World) (h1 : Ts w A n l) (h2 : Ts w A' n' m) (hn : n ≤ 1000000) (hn' : n' ≤ 1000000) :
    Calls Try.prog 53 #[.slice A n c, .slice A' n' c'] w fun e w' => e = .returned (.bool b) ∧ Ext w w' := by
  have hl1 := h1.len
  have hl2 := h2.len
  by_cases hnn : n = n'
  case neg =>
    have hf : b = false := by rw [← hb]; simp; intro e; rw [e] at hl1; omega
    subst hf
    have hk := bne_t (show ((n : Nat) : Int) ≠ n' by omega)
    have hk' := beq_f (show ((n : Nat) : Int) ≠ n' by omega)
    clear hb h1 h2 hl1 hl2
    go_enter Try.func53, Try.ntmps53
    go_wp2
    go_ret
    exact ⟨rfl, Ext.refl w⟩
  subst hnn
  have Hb := Lib.hid hb
  clear hb
  go_enter Try.func53, Try.ntmps53
  go_wp2_with fail
  go_loopw [13] (fun i wr => ∃ j : Nat, i = .int .i64 j ∧ j ≤ n ∧ l.take j = m.take j ∧ Ext w wr) (fun i _ => n - (intOf i).toNat)
  case atStart => exact ⟨0, rfl, by omega, rfl, Ext.refl w⟩
  case round =>
    obtain ⟨j, rfl, hj, hpre, hx⟩ := hrel
    by_cases hjn : j < n
    · have hjl : j < l.length := by omega
      have hjm : j < m.length := by omega
      obtain ⟨bb, off, rfl, hlt, hc⟩ := (h1.ext hx).at_ hjn
      obtain ⟨bb', off', rfl, hlt', hd⟩ := (h2.ext hx).at_ hjn
      have HE := Lib.hid (fun he => take_eq_snoc hjl hjm hpre he)
      have HNe := Lib.hid (fun he => take_ne hjl hjm he)
      generalize l[j] = f at *
      generalize m[j] = g at *
      have c0 : wr.cell? ⟨bb, off + j * 2, none⟩ = some (.int .i64 f.set) := hc 0 (by omega)
      have c1 : wr.cell? ⟨bb, off + j * 2 + 1, none⟩ = some (.int .i64 f.client) := hc 1 (by omega)
      have d0 : wr.cell? ⟨bb', off' + j * 2, none⟩ = some (.int .i64 g.set) := hd 0 (by omega)
      have d1 : wr.cell? ⟨bb', off' + j * 2 + 1, none⟩ = some (.int .i64 g.client) := hd 1 (by omega)
      clear hc hd
      clear hpre
      have hj0 : (0 : Int) ≤ j := by omega
      have hj1 : (j : Int) < n := by omega
      by_cases he : f = g
      · have H1 := Lib.hid (HE.out he)
        have hq := fun w => run_neq_ov f g w
        rw [show decide (f = g) = true by simp [he]] at hq
        simp only [Bool.not_true] at hq
        clear HE HNe he
        go_wp2
        go_quiet (fail)
        go_wp2
        go_roundw
        case rel => exact ⟨j + 1, val_int (by omega), by omega, H1.out, hx.drewN _⟩
        case measure => simp [intOf]; omega
      · have H1 : Hid (b = false) := Lib.hid (by rw [← Hb.out]; simpa using HNe.out he)
        have hq := fun w => run_neq_ov f g w
        rw [show decide (f = g) = false by simp [he]] at hq
        simp only [Bool.not_false] at hq
        clear HE HNe he
        go_wp2
        go_quiet (fail)
        go_wp2
        go_ret
        exact ⟨by rw [H1.out] <;> rfl, hx.drewN _⟩
    · obtain rfl : n = j := by omega
      rw [List.take_of_length_le (by omega), List.take_of_length_le (by omega)] at hpre
      have H1 : Hid (b = true) := Lib.hid (by rw [← Hb.out, hpre]; simp)
      clear hpre
      go_wp2
      go_ret
      exact ⟨by rw [H1.out] <;> rfl, hx⟩

set_option maxRecDepth 100000 in
set_option maxHeartbeats 800000 in
theorem st_sameInt (A A' : Option Addr) (n n' c c' : Nat) (l m : List Int) (b : Bool) (hb : decide (l = m) = b) (w : World) (h1 : Is w A n l) (h2 : Is w A' n' m) (hn : n ≤ 1000000) (hn' : n' ≤ 1000000) :
    Calls Try.prog 93 #[.slice A n c, .slice A' n' c'] w fun e w' => e = .returned (.bool b) ∧ Ext w w' := by
  have hl1 := h1.len
  have hl2 := h2.len
  by_cases hnn : n = n'
  case neg =>
    have hf : b = false := by rw [← hb]; simp; intro e; rw [e] at hl1; omega
    subst hf
    have hk := bne_t (show ((n : Nat) : Int) ≠ n' by omega)
    have hk' := beq_f (show ((n : Nat) : Int) ≠ n' by omega)
    clear hb h1 h2 hl1 hl2
    go_enter Try.func93, Try.ntmps93
    go_wp2
    go_ret
    exact ⟨rfl, Ext.refl w⟩
  subst hnn
  have Hb := Lib.hid hb
  clear hb
  go_enter Try.func93, Try.ntmps93
  go_wp2_with fail
  go_loopw [13] (fun i wr => ∃ j : Nat, i = .int .i64 j ∧ j ≤ n ∧ l.take j = m.take j ∧ Ext w wr) (fun i _ => n - (intOf i).toNat)
  case atStart => exact ⟨0, rfl, by omega, rfl, Ext.refl w⟩
  case round =>
    obtain ⟨j, rfl, hj, hpre, hx⟩ := hrel
    by_cases hjn : j < n
    · have hjl : j < l.length := by omega
      have hjm : j < m.length := by omega
      obtain ⟨bb, off, rfl, c0⟩ := (h1.ext hx).at_ hjn
      obtain ⟨bb', off', rfl, d0⟩ := (h2.ext hx).at_ hjn
      have HE := Lib.hid (fun he => take_eq_snoc hjl hjm hpre he)
      have HNe := Lib.hid (fun he => take_ne hjl hjm he)
      generalize l[j] = f at *
      generalize m[j] = g at *
      clear hpre
      have hj0 : (0 : Int) ≤ j := by omega
      have hj1 : (j : Int) < n := by omega
      by_cases he : f = g
      · have H1 := Lib.hid (HE.out he)
        have hq := bne_f he
        clear HE HNe he
        go_wp2
        go_quiet (fail)
        go_wp2
        go_roundw
        case rel => exact ⟨j + 1, val_int (by omega), by omega, H1.out, hx.drewN _⟩
        case measure => simp [intOf]; omega
      · have H1 : Hid (b = false) := Lib.hid (by rw [← Hb.out]; simpa using HNe.out he)
        have hq := bne_t he
        clear HE HNe he
        go_wp2
        go_quiet (fail)
        go_wp2
        go_ret
        exact ⟨by rw [H1.out] <;> rfl, hx.drewN _⟩
    · obtain rfl : n = j := by omega
      rw [List.take_of_length_le (by omega), List.take_of_length_le (by omega)] at hpre
      have H1 : Hid (b = true) := Lib.hid (by rw [← Hb.out, hpre]; simp)
      clear hpre
      go_wp2
      go_ret
      exact ⟨by rw [H1.out] <;> rfl, hx⟩

theorem bytes_ne {a b : ByteArray} (h : a ≠ b) : (a.toList == b.toList) = false := by
  rw [beq_eq_false_iff_ne]
  intro e
  rw [ByteArray.toList_eq, ByteArray.toList_eq] at e
  exact h (ByteArray.ext (Array.ext' e))
/-- are two snapshots the same -/
def nvEq (a b : NV) : Bool := decide (a.id = b.id) && (decide (a.set = b.set) && (decide (a.held = b.held) && (decide (a.tag = b.tag) && decide (a.ch = b.ch))))
theorem nvEq_iff {a b : NV} : nvEq a b = true ↔ a.id = b.id ∧ a.set = b.set ∧ a.held = b.held ∧ a.tag = b.tag ∧ a.ch = b.ch := by
  unfold nvEq; simp
set_option maxRecDepth 100000 in
set_option maxHeartbeats 1600000 in
theorem st_sameSnap (f g : NV) (b : Bool) (hb : nvEq f g = b) (w : World) (hf : f.Ok w) (hg : g.Ok w) (hl : f.len ≤ 1000000) (hm : g.len ≤ 1000000) :
    Calls Try.prog 55 #[.agg f.cells.toArray, .agg g.cells.toArray] w fun e w' => e = .returned (.bool b) ∧ Ext w w' := by
  have hc1 := hf.cs
  have hc2 := hg.cs
  obtain ⟨a1, s1, A1, ln1, cp1, ch1, hd1, tg1⟩ := f
  obtain ⟨a2, s2, A2, ln2, cp2, ch2, hd2, tg2⟩ := g
  unfold NV.cells
  unfold nvEq at hb
  dsimp only at hb hc1 hc2 hl hm ⊢
  have xa : Ext w ((w.alloc (.cells #[.int .i64 a1, .int .i64 s1, .slice A1 ln1 cp1, .bool hd1, .string tg1] 33)).alloc (.cells #[.int .i64 a2, .int .i64 s2, .slice A2 ln2 cp2, .bool hd2, .string tg2] 33)) := ((Ext.refl w).alloc _).alloc _
  have HS := Lib.hid (fun b hb => st_sameInt A1 A2 ln1 ln2 cp1 cp2 ch1 ch2 b hb _ (hc1.ext xa) (hc2.ext xa) hl hm)
  clear hf hg hc1 hc2
  by_cases h1 : a1 = a2
  case neg =>
    rw [dec_f h1, Bool.false_and] at hb
    subst hb
    have k := beq_f h1
    clear HS h1
    go_enter Try.func55, Try.ntmps55
    go_wp2
    go_ret
    exact ⟨rfl, xa⟩
  rw [dec_t h1, Bool.true_and] at hb
  subst h1
  by_cases h2 : s1 = s2
  case neg =>
    rw [dec_f h2, Bool.false_and] at hb
    subst hb
    have k := beq_f h2
    clear HS h2
    go_enter Try.func55, Try.ntmps55
    go_wp2
    go_ret
    exact ⟨rfl, xa⟩
  rw [dec_t h2, Bool.true_and] at hb
  subst h2
  by_cases h3 : hd1 = hd2
  case neg =>
    rw [dec_f h3, Bool.false_and] at hb
    subst hb
    clear HS
    rcases hd1 with _ | _ <;> rcases hd2 with _ | _ <;> first | exact absurd rfl h3 | skip
    all_goals
      clear h3
      go_enter Try.func55, Try.ntmps55
      go_wp2
      go_ret
      exact ⟨rfl, xa⟩
  rw [dec_t h3, Bool.true_and] at hb
  subst h3
  by_cases h4 : tg1 = tg2
  case neg =>
    rw [dec_f h4, Bool.false_and] at hb
    subst hb
    have k := bytes_ne h4
    clear HS h4
    go_enter Try.func55, Try.ntmps55
    go_wp2
    go_ret
    exact ⟨rfl, xa⟩
  rw [dec_t h4, Bool.true_and] at hb
  subst h4
  have HS2 := Lib.hid (HS.out _ hb)
  clear HS hb
  go_enter Try.func55, Try.ntmps55
  go_wp2_with (go_at_call 93; refine HS2.out.mono ?_; rintro e w1 ⟨rfl, y1⟩)
  go_ret
  exact ⟨rfl, xa.trans y1⟩

/-- are two rows of snapshots the same -/
def snsEq : List NV → List NV → Bool
  | [], [] => true
  | a :: l, b :: m => nvEq a b && snsEq l m
  | _, _ => false
theorem snsEq_cons (a b : NV) (l m : List NV) : snsEq (a :: l) (b :: m) = (nvEq a b && snsEq l m) := rfl
theorem snsEq_len : ∀ {l m : List NV}, l.length ≠ m.length → snsEq l m = false
  | [], [], h => absurd rfl h
  | [], _ :: _, _ => rfl
  | _ :: _, [], _ => rfl
  | a :: l, b :: m, h => by rw [snsEq_cons, snsEq_len (l := l) (m := m) (by simpa using h), Bool.and_false]
set_option maxRecDepth 100000 in
set_option maxHeartbeats 800000 in
theorem st_EqualFunc (A A' : Option Addr) (n n' c c' : Nat) (l m : List NV) (b : Bool) (hb : snsEq l m = b) (w : World) (h1 : Ts w A n l) (h2 : Ts w A' n' m) (hn : n ≤ 1000000) (hn' : n' ≤ 1000000) (hl1 : ∀ f ∈ l, f.len ≤ 1000000) (hl2 : ∀ f ∈ m, f.len ≤ 1000000) :
    Calls Try.prog 54 #[.slice A n c, .slice A' n' c', .func (.func 55) #[] #[]] w fun e w' => e = .returned (.bool b) ∧ Ext w w' := by
  have hlen1 := h1.len
  have hlen2 := h2.len
  by_cases hnn : n = n'
  case neg =>
    have hf : b = false := by rw [← hb]; exact snsEq_len (by omega)
    subst hf
    have hk := bne_t (show ((n : Nat) : Int) ≠ n' by omega)
    have hk' := beq_f (show ((n : Nat) : Int) ≠ n' by omega)
    clear hb h1 h2 hl1 hl2 hlen1 hlen2
    go_enter Try.func54, Try.ntmps54
    go_wp2
    go_ret
    exact ⟨rfl, Ext.refl w⟩
  subst hnn
  have Hb := Lib.hid hb
  have L1 := Lib.hid hl1
  have L2 := Lib.hid hl2
  clear hb hl1 hl2
  go_enter Try.func54, Try.ntmps54
  go_wp2_with fail
  go_loopw [17] (fun i wr => ∃ j : Nat, i = .int .i64 j ∧ j ≤ n ∧ b = snsEq (l.drop j) (m.drop j) ∧ Ext w wr) (fun i _ => n - (intOf i).toNat)
  case atStart => exact ⟨0, rfl, by omega, Hb.out.symm, Ext.refl w⟩
  case round =>
    obtain ⟨j, rfl, hj, hpre, hx⟩ := hrel
    by_cases hjn : j < n
    · have hjl : j < l.length := by omega
      have hjm : j < m.length := by omega
      obtain ⟨bb, off, rfl, hlt, hc⟩ := (h1.ext hx).at_ hjn
      obtain ⟨bb', off', rfl, hlt', hd⟩ := (h2.ext hx).at_ hjn
      have ok1 : NV.Ok l[j] wr := (h1.ext hx).ok l[j] (List.getElem_mem _)
      have ok2 : NV.Ok m[j] wr := (h2.ext hx).ok m[j] (List.getElem_mem _)
      have le1 := L1.out l[j] (List.getElem_mem _)
      have le2 := L2.out m[j] (List.getElem_mem _)
      rw [List.drop_eq_getElem_cons hjl, List.drop_eq_getElem_cons hjm, snsEq_cons] at hpre
      generalize l[j] = f at *
      generalize m[j] = g at *
      have c0 : wr.cell? ⟨bb, off + j * 5, none⟩ = some (.int .i64 f.id) := hc 0 (by omega)
      have c1 : wr.cell? ⟨bb, off + j * 5 + 1, none⟩ = some (.int .i64 f.set) := hc 1 (by omega)
      have c2 : wr.cell? ⟨bb, off + j * 5 + 2, none⟩ = some (.slice f.A f.len f.cap) := hc 2 (by omega)
      have c3 : wr.cell? ⟨bb, off + j * 5 + 3, none⟩ = some (.bool f.held) := hc 3 (by omega)
      have c4 : wr.cell? ⟨bb, off + j * 5 + 4, none⟩ = some (.string f.tag) := hc 4 (by omega)
      have xa : Ext wr (wr.alloc (.cells #[.int .i64 f.id, .int .i64 f.set, .slice f.A f.len f.cap, .bool f.held, .string f.tag] 33)) := (Ext.refl wr).alloc _
      have d0' : wr.cell? ⟨bb', off' + j * 5, none⟩ = some (.int .i64 g.id) := hd 0 (by omega)
      have d1' : wr.cell? ⟨bb', off' + j * 5 + 1, none⟩ = some (.int .i64 g.set) := hd 1 (by omega)
      have d2' : wr.cell? ⟨bb', off' + j * 5 + 2, none⟩ = some (.slice g.A g.len g.cap) := hd 2 (by omega)
      have d3' : wr.cell? ⟨bb', off' + j * 5 + 3, none⟩ = some (.bool g.held) := hd 3 (by omega)
      have d4' : wr.cell? ⟨bb', off' + j * 5 + 4, none⟩ = some (.string g.tag) := hd 4 (by omega)
      have d0 := xa.cell d0'
      have d1 := xa.cell d1'
      have d2 := xa.cell d2'
      have d3 := xa.cell d3'
      have d4 := xa.cell d4'
      have hj0 : (0 : Int) ≤ j := by omega
      have hj1 : (j : Int) < n := by omega
      have xb := xa.alloc (.cells #[.int .i64 g.id, .int .i64 g.set, .slice g.A g.len g.cap, .bool g.held, .string g.tag] 33)
      have HE := Lib.hid (fun b hb => st_sameSnap f g b hb _ (ok1.ext xb) (ok2.ext xb) le1 le2)
      clear hc hd d0' d1' d2' d3' d4' ok1 ok2
      rcases he : nvEq f g with _ | _
      · rw [he, Bool.false_and] at hpre
        subst hpre
        have HE2 := Lib.hid (HE.out _ he)
        clear HE he Hb
        go_wp2_with (first
          | (refine wpList_named 55 (by rfl) ?_)
          | (go_at_call 55; refine HE2.out.mono ?_; rintro e w1 ⟨rfl, y1⟩))
        go_ret
        exact ⟨rfl, (hx.trans xb).trans y1⟩
      · rw [he, Bool.true_and] at hpre
        have HP := Lib.hid hpre
        have HE2 := Lib.hid (HE.out _ he)
        clear HE he hpre
        go_wp2_with (first
          | (refine wpList_named 55 (by rfl) ?_)
          | (go_at_call 55; refine HE2.out.mono ?_; rintro e w1 ⟨rfl, y1⟩))
        go_roundw
        case rel => exact ⟨j + 1, val_int (by omega), by omega, HP.out, (hx.trans xb).trans y1⟩
        case measure => simp [intOf]; omega
    · obtain rfl : n = j := by omega
      rw [List.drop_of_length_le (by omega), List.drop_of_length_le (by omega)] at hpre
      have HP : Hid (b = true) := Lib.hid hpre
      clear hpre
      go_wp2
      go_ret
      exact ⟨by rw [HP.out] <;> rfl, hx⟩

/-- are two catalogues the same -/
def kSame (a b : KV) : Bool := decide (a.ver = b.ver) && (decide (a.next = b.next) && (decide (a.keep = b.keep) && (decide (a.quota = b.quota) && (decide (a.ses = b.ses) && (decide (a.ops = b.ops) && snsEq a.sns b.sns)))))
/-- a catalogue of not too many things -/
structure KV.Few (s : KV) : Prop where
  n1 : s.n1 ≤ 1000000
  n2 : s.n2 ≤ 1000000
  n3 : s.n3 ≤ 1000000
  ch : ∀ f ∈ s.sns, f.len ≤ 1000000
set_option maxRecDepth 100000 in
set_option maxHeartbeats 3200000 in
theorem st_Same (s t : KV) (b : Bool) (hb : kSame s t = b) (w : World) (hs : s.Ok w) (ht : t.Ok w) (fs : s.Few) (ft : t.Few) :
    Calls Try.prog 20 #[s.val, t.val] w fun e w' => e = .returned (.bool b) ∧ Ext w w' := by
  obtain ⟨s1, s2, s3, s4⟩ := fs
  obtain ⟨g1, g2, g3, g4⟩ := ft
  have S1 := hs.t1
  have S2 := hs.t2
  have S3 := hs.t3
  have T1 := ht.t1
  have T2 := ht.t2
  have T3 := ht.t3
  clear hs ht
  obtain ⟨ver, next, keep, quota, A1, n1, c1, ses, A2, n2, c2, ops, A3, n3, c3, sns⟩ := s
  obtain ⟨ver', next', keep', quota', A1', n1', c1', ses', A2', n2', c2', ops', A3', n3', c3', sns'⟩ := t
  unfold KV.val
  unfold kSame at hb
  dsimp only at hb s1 s2 s3 s4 g1 g2 g3 g4 S1 S2 S3 T1 T2 T3 ⊢
  have xa : Ext w ((w.alloc (.cells #[.int .i64 ver, .int .i64 next, .int .i64 keep, .int .i64 quota, .slice A1 n1 c1, .slice A2 n2 c2, .slice A3 n3 c3] 26)).alloc (.cells #[.int .i64 ver', .int .i64 next', .int .i64 keep', .int .i64 quota', .slice A1' n1' c1', .slice A2' n2' c2', .slice A3' n3' c3'] 26)) := ((Ext.refl w).alloc _).alloc _
  have hB := (Blk.new w 26 [.int .i64 ver, .int .i64 next, .int .i64 keep, .int .i64 quota, .slice A1 n1 c1, .slice A2 n2 c2, .slice A3 n3 c3]).alloc (.cells #[.int .i64 ver', .int .i64 next', .int .i64 keep', .int .i64 quota', .slice A1' n1' c1', .slice A2' n2' c2', .slice A3' n3' c3'] 26)
  have hB' := Blk.new (w.alloc (.cells #[.int .i64 ver, .int .i64 next, .int .i64 keep, .int .i64 quota, .slice A1 n1 c1, .slice A2 n2 c2, .slice A3 n3 c3] 26)) 26 [.int .i64 ver', .int .i64 next', .int .i64 keep', .int .i64 quota', .slice A1' n1' c1', .slice A2' n2' c2', .slice A3' n3' c3']
  rw [show (w.alloc (.cells #[.int .i64 ver, .int .i64 next, .int .i64 keep, .int .i64 quota, .slice A1 n1 c1, .slice A2 n2 c2, .slice A3 n3 c3] 26)).heap.size = w.heap.size + 1 by simp] at hB'
  have H1 := Lib.hid (fun b hb (w' : World) (h : Ext w w') => st_sameSess A1 A1' n1 n1' c1 c1' ses ses' b hb w' (S1.ext h) (T1.ext h) s1 g1)
  have H2 := Lib.hid (fun b hb (w' : World) (h : Ext w w') => st_sameOpen A2 A2' n2 n2' c2 c2' ops ops' b hb w' (S2.ext h) (T2.ext h) s2 g2)
  have H3 := Lib.hid (fun b hb (w' : World) (h : Ext w w') => st_EqualFunc A3 A3' n3 n3' c3 c3' sns sns' b hb w' (S3.ext h) (T3.ext h) s3 g3 s4 g4)
  clear s4 g4 S1 S2 S3 T1 T2 T3
  by_cases k1 : ver = ver'
  case neg =>
    rw [dec_f k1, Bool.false_and] at hb
    subst hb
    have k := beq_f k1
    clear H1 H2 H3 k1 hB hB'
    go_enter Try.func20, Try.ntmps20
    go_wp2
    go_ret
    exact ⟨rfl, xa⟩
  rw [dec_t k1, Bool.true_and] at hb
  subst k1
  by_cases k2 : next = next'
  case neg =>
    rw [dec_f k2, Bool.false_and] at hb
    subst hb
    have k := beq_f k2
    clear H1 H2 H3 k2 hB hB'
    go_enter Try.func20, Try.ntmps20
    go_wp2
    go_ret
    exact ⟨rfl, xa⟩
  rw [dec_t k2, Bool.true_and] at hb
  subst k2
  by_cases k3 : keep = keep'
  case neg =>
    rw [dec_f k3, Bool.false_and] at hb
    subst hb
    have k := beq_f k3
    clear H1 H2 H3 k3 hB hB'
    go_enter Try.func20, Try.ntmps20
    go_wp2
    go_ret
    exact ⟨rfl, xa⟩
  rw [dec_t k3, Bool.true_and] at hb
  subst k3
  by_cases k4 : quota = quota'
  case neg =>
    rw [dec_f k4, Bool.false_and] at hb
    subst hb
    have k := beq_f k4
    clear H1 H2 H3 k4 hB hB'
    go_enter Try.func20, Try.ntmps20
    go_wp2
    go_ret
    exact ⟨rfl, xa⟩
  rw [dec_t k4, Bool.true_and] at hb
  subst k4
  by_cases k5 : ses = ses'
  case neg =>
    rw [dec_f k5, Bool.false_and] at hb
    subst hb
    have M1 := Lib.hid (H1.out false (dec_f k5) _ xa)
    clear H1 H2 H3 k5 hB hB'
    go_enter Try.func20, Try.ntmps20
    go_wp2_with (go_at_call 52; refine M1.out.mono ?_; rintro e w1 ⟨rfl, y1⟩)
    go_ret
    exact ⟨rfl, xa.trans y1⟩
  rw [dec_t k5, Bool.true_and] at hb
  have M1 := Lib.hid (H1.out true (dec_t k5) _ xa)
  by_cases k6 : ops = ops'
  case neg =>
    rw [dec_f k6, Bool.false_and] at hb
    subst hb
    have M2 := Lib.hid (fun w' h => H2.out false (dec_f k6) w' h)
    clear H1 H2 H3 k5 k6
    go_enter Try.func20, Try.ntmps20
    go_wp2_with fail
    refine M1.out.mono ?_
    rintro e w1 ⟨rfl, y1⟩
    have d5 := (hB.ext y1).cell 5
    have e5 := (hB'.ext y1).cell 5
    simp only [List.getElem?_cons_zero, List.getElem?_cons_succ] at d5 e5
    go_wp2_with (go_at_call 53; refine (M2.out _ (xa.trans y1)).mono ?_; rintro e w2 ⟨rfl, y2⟩)
    go_ret
    exact ⟨rfl, (xa.trans y1).trans y2⟩
  rw [dec_t k6, Bool.true_and] at hb
  have M2 := Lib.hid (fun w' h => H2.out true (dec_t k6) w' h)
  have M3 := Lib.hid (fun w' h => H3.out b hb w' h)
  clear H1 H2 H3 k5 k6 hb
  go_enter Try.func20, Try.ntmps20
  go_wp2_with fail
  refine M1.out.mono ?_
  rintro e w1 ⟨rfl, y1⟩
  have d5 := (hB.ext y1).cell 5
  have e5 := (hB'.ext y1).cell 5
  simp only [List.getElem?_cons_zero, List.getElem?_cons_succ] at d5 e5
  go_wp2_with fail
  refine (M2.out _ (xa.trans y1)).mono ?_
  rintro e w2 ⟨rfl, y2⟩
  have d6 := ((hB.ext y1).ext y2).cell 6
  have e6 := ((hB'.ext y1).ext y2).cell 6
  simp only [List.getElem?_cons_zero, List.getElem?_cons_succ] at d6 e6
  go_wp2_with fail
  refine (M3.out _ ((xa.trans y1).trans y2)).mono ?_
  rintro e w3 ⟨rfl, y3⟩
  go_wp2
  go_ret
  exact ⟨rfl, ((xa.trans y1).trans y2).trans y3⟩
end Go.Proofs.Ytiildgoaiookhaa
