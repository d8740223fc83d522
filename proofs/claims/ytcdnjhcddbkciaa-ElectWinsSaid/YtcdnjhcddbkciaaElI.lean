/- The walk of the law ElectWins. -/
import Derived.Test.YtcdnjhcddbkciaaElE
namespace Go.Proofs.Ytcdnjhcddbkciaa
open Go.RowKit

theorem boolsT : SliceT Try.prog 58 4 1 1 := .mk' Try.underlying58 (z := .bool false) (by kernel_rfl) rfl
/-- have both one in common -/
def bothB (a b : List Bool) (j : Nat) : Bool := (List.range j).any fun i => (a.getD i false && b.getD i false)
theorem bothB_zero (a b : List Bool) : bothB a b 0 = false := rfl
theorem bothB_succ (a b : List Bool) (j : Nat) (ha : j < a.length) (hb : j < b.length) : bothB a b (j + 1) = (bothB a b j || (a[j] && b[j])) := by
  unfold bothB; rw [List.range_succ, List.any_append]; simp [List.getElem?_eq_getElem ha, List.getElem?_eq_getElem hb]
theorem both_of (a b : List Bool) : ∀ j, j ≤ a.length → j ≤ b.length → bothB a b j = false → cnt (a.take j) + cnt (b.take j) ≤ j
  | 0, _, _, _ => by simp [cnt]
  | j + 1, ha, hb, h => by
    rw [bothB_succ a b j (by omega) (by omega)] at h
    simp only [Bool.or_eq_false_iff] at h
    have ih := both_of a b j (by omega) (by omega) h.1
    have h1 := cnt_snoc a j (by omega)
    have h2 := cnt_snoc b j (by omega)
    have h3 := h.2
    rw [h1, h2]
    revert h3
    cases a[j] <;> cases b[j] <;> simp <;> omega
theorem cnt_not (a : List Bool) : cnt (a.map (!·)) + cnt a = a.length := by
  induction a with
  | nil => rfl
  | cons x r ih => unfold cnt at *; cases x <;> simp <;> omega
theorem cnt_set (a : List Bool) (k : Nat) : cnt a ≤ cnt (a.set k true) := by
  induction a generalizing k with
  | nil => simp
  | cons x r ih =>
    cases k with
    | zero => unfold cnt; cases x <;> simp
    | succ k => have := ih k; unfold cnt at *; cases x <;> simp <;> omega
theorem Bl.upto {w : World} {A : Option Addr} {n : Nat} {l : List Bool} (h : Bl w A n l) {hi : Nat} (hh : hi ≤ n) : Bl w A hi (l.take hi) := by
  have := Rd.part h (lo := 0) (m := hi) (by omega) A (fun _ b off e => by simpa using e)
  unfold Bl
  rw [List.map_take]
  simpa using this
theorem bools_one (l : List Bool) : ∀ u ∈ l.map Value.bool, u.oneCell' = true := by
  intro u hu; obtain ⟨x, _, rfl⟩ := List.mem_map.1 hu; rfl
/-- behind a store into another block -/
theorem Bl.far {w : World} {g : Nat} {n : Nat} {l : List Bool} (h : Bl w (some ⟨g, 0, none⟩) n l) {p : Addr} (hp : g ≠ p.block) (u : Value) : Bl (w.setCell p u) (some ⟨g, 0, none⟩) n l := by
  refine ⟨h.1, fun hn => ?_⟩
  obtain ⟨b, off, e, hb, hc⟩ := h.2 hn
  injection e with e
  injection e with e1 e2
  subst e1 e2
  exact ⟨g, 0, rfl, by simpa [World.setCell] using hb, fun j v hv => (World.cell?_setCell_other w p _ u (by intro e; subst e; exact hp rfl)).trans (hc j v hv)⟩
theorem own_bl {w : World} {base : Nat} {e : TypeId} {n : Nat} {v : Value} {l : List Bool} (h : w.ownsRow base e 1 v n (l.map Value.bool)) (hn : 0 < n) :
    ∃ g c, v = .slice (some ⟨g, 0, none⟩) n c ∧ base ≤ g ∧ n ≤ c ∧ Bl w (some ⟨g, 0, none⟩) n l ∧ (∀ k, w.frozen? ⟨g, k, none⟩ = false) ∧ g < w.heap.size := by
  have h' := h
  rcases h.2 with ⟨rfl, h0⟩ | ⟨g, cap, cur, rfl, hb, hg, hc, hm, _⟩
  · have hl := h.1; rw [h0] at hl; simp at hl; omega
  · exact ⟨g, cap, rfl, hb, hc, Rd.of_own h', fun k => frozen_of_row w g k _ _ hg, lt_of_block hg⟩
theorem Bl.set_ {w : World} {g : Nat} {n : Nat} {l : List Bool} (h : Bl w (some ⟨g, 0, none⟩) n l) {k : Nat} (hk : k < n) (b : Bool) : Bl (w.setCell ⟨g, k, none⟩ (.bool b)) (some ⟨g, 0, none⟩) n (l.set k b) := by
  refine ⟨by have := h.1; simpa using this, fun hn => ?_⟩
  obtain ⟨b', off, e, hb, hc⟩ := h.2 hn
  injection e with e
  injection e with e1 e2
  subst e1 e2
  refine ⟨g, 0, rfl, by simpa [World.setCell] using hb, fun j v hv => ?_⟩
  rw [List.map_set] at hv
  rw [Nat.zero_add]
  by_cases hj : k = j
  · subst hj
    have hl : k < (l.map Value.bool).length := by have := h.1; rw [Nat.mul_one] at this; omega
    rw [List.getElem?_set_self hl] at hv
    injection hv with hv
    subst hv
    have := hc k _ (List.getElem?_eq_getElem hl)
    rw [Nat.zero_add] at this
    exact World.cell?_setCell_same (h := this) ..
  · rw [List.getElem?_set_ne hj] at hv
    have := hc j v hv
    rw [Nat.zero_add] at this
    exact (World.cell?_setCell_other w ⟨g, k, none⟩ ⟨g, j, none⟩ (.bool b) (by intro e; injection e with _ e _; exact hj e)).trans this

/-- what the law says of the counts -/
theorem wins_law (a b : List Bool) (k : Nat) (hab : a.length = b.length) : (winsB a = false) ∨ (winsB a = true ∧ winsB b = false ∧ winsB (a.set k true) = true ∧ winsB (a.map (!·)) = false) ∨
    (winsB a = true ∧ winsB b = true ∧ bothB a b a.length = true ∧ winsB (a.set k true) = true ∧ winsB (a.map (!·)) = false) := by
  rcases ha : winsB a with _ | _
  · exact .inl rfl
  · right
    have h1 : a.length < 2 * cnt a := by simpa [winsB] using ha
    have h2 := cnt_set a k
    have h3 := cnt_not a
    have e1 : winsB (a.set k true) = true := by simp only [winsB, decide_eq_true_eq, List.length_set]; omega
    have e2 : winsB (a.map (!·)) = false := by simp only [winsB, decide_eq_false_iff_not, List.length_map]; omega
    rcases hb : winsB b with _ | _
    · exact .inl ⟨rfl, rfl, e1, e2⟩
    · refine .inr ⟨rfl, rfl, ?_, e1, e2⟩
      have h4 : b.length < 2 * cnt b := by simpa [winsB] using hb
      rcases hc : bothB a b a.length with _ | _
      · have := both_of a b a.length (Nat.le_refl _) (by omega) hc
        rw [List.take_length, hab, List.take_length] at this
        omega
      · rfl

set_option maxRecDepth 100000 in
set_option maxHeartbeats 3200000 in
theorem law_ElectWins_a (A : Option Addr) (n c : Nat) (a0 : List Bool) (B : Option Addr) (m d : Nat) (b0 : List Bool) (at_ : Nat) (hat : at_ < 256) (w : World) (ha0 : Bl w A n a0) (hb0 : Bl w B m b0) (hnc : n ≤ c) (hmd : m ≤ d) (h1 : n ≤ m) (h2 : n ≤ 20) :
    Calls Try.prog 11 #[.slice A n c, .slice B m d, .int .u8 at_] w fun e w' => e = .returned (.bool true) ∧ Ext w w' := by
  have ha := ha0.upto (hi := n) (by omega)
  have hb := hb0.upto (hi := n) (by omega)
  clear ha0 hb0
  generalize a0.take n = a at *
  generalize b0.take n = b at *
  have j1 := dec_f (show ¬ (m : Int) < n by omega)
  have j2 := dec_f (show ¬ (20 : Int) < n by omega)
  go_enter Try.func11, Try.ntmps11
  go_wp2_with fail
  refine (law18_shown _).mono ?_
  rintro e w1 ⟨rfl, x1⟩
  have ha1 := ha.ext x1
  have hb1 := hb.ext x1
  have hla := ha.len
  have hlb := hb.len
  have h0 := own_empty (w1.alloc (.cells #[] 4)) 4 1
  have hn0 := (own_empty w1 4 1).alloc (.cells #[] 4)
  rw [show (w1.alloc (.cells #[] 4)).heap.size = w1.heap.size + 1 by simp] at h0
  clear ha hb
  go_wp2_with (at_builtin; refine wpList_app boolsT (by omega) _ rfl rfl rfl h0 rfl ((ha1.alloc _).alloc _) (bools_one _) (by unfold maxLen; omega) (by omega) (by simp) ?_; intro v3 w3 hown3 hg3 hat3)
  have hx3 : Ext w1 w3 := Below.app (((Ext.refl w1).alloc _).alloc _) hg3 (by simp; omega) h0 (by omega)
  have hnot := hn0.kept hg3 (.inr (by show some w1.heap.size ≠ some (w1.heap.size + 1); intro h; injection h with h; omega))
  have hne : v3.ownBlock ≠ some w1.heap.size := by
    rcases hat3 with h | h
    · rw [h]; show some (w1.heap.size + 1) ≠ some w1.heap.size; intro h; injection h with h; omega
    · rw [h]; intro h; injection h with h; simp at h; omega
  clear hn0 h0 hg3 hat3
  simp only [List.nil_append, Nat.zero_add] at hown3
  have HM := Lib.hid hown3; clear hown3
  go_loopw [9, 10, 12] (fun bo v i wr => ∃ j : Nat, i = .int .i64 j ∧ j ≤ n ∧ bo = .bool (bothB a b j) ∧ wr.ownsRow w1.heap.size 4 1 v j (((a.take j).map (!·)).map Value.bool) ∧ wr.ownsRow (w1.heap.size + 1) 4 1 v3 n (a.map Value.bool) ∧ v3.ownBlock ≠ v.ownBlock ∧ Ext w1 wr) (fun _ _ i _ => n - (intOf i).toNat)
  case atStart => exact ⟨0, rfl, by omega, rfl, by simpa using hnot, HM.out, hne, hx3⟩
  case round =>
    obtain ⟨j, rfl, hj, rfl, hown, hmore, hdis, hx⟩ := hrel
    clear hx3 hnot hne
    by_cases hjn : j < n
    · obtain ⟨ba, oa, rfl, c0⟩ := (ha1.ext hx).at_ hjn
      obtain ⟨bb, ob, rfl, c1⟩ := (hb1.ext hx).at_ hjn
      have hsn := bothB_succ a b j (by omega) (by omega)
      have htk : ((a.take (j + 1)).map (!·)).map Value.bool = ((a.take j).map (!·)).map Value.bool ++ [.bool (!a[j])] := by rw [List.take_succ_eq_append_getElem (by omega), List.map_append, List.map_append]; rfl
      generalize a[j] = p at *
      generalize b[j] = q at *
      have hszw := hx.size
      have Hsn := Lib.hid hsn; clear hsn
      have Htk := Lib.hid htk; clear htk
      have Hm := Lib.hid hmore; clear hmore
      have Hd := Lib.hid hdis; clear hdis
      have hmlt : ∀ g, v3.ownBlock = some g → g < wr.heap.size := fun g hg => (Hm.out.lt g hg).2
      have Hml := Lib.hid hmlt; clear hmlt
      generalize bothB a b j = bo at *
      rcases bo with _ | _ <;> rcases p with _ | _ <;> rcases q with _ | _
      all_goals
        go_wp2_with (at_builtin; refine wpList_app boolsT (by omega) _ rfl rfl rfl (hown.alloc _) rfl (rd_new1 _ _ _) (one1 rfl) (by unfold maxLen; omega) (by omega) (by simp; omega) ?_; intro v4 w4 hown4 hg4 hat4)
        go_roundw
        case rel =>
          refine ⟨j + 1, val_int (by omega), by omega, by rw [Hsn.out]; rfl, own_to hown4 (Nat.le_refl _) rfl (by rw [Htk.out]; rfl), (Hm.out.alloc _).kept hg4 (.inr Hd.out), ?_, Below.app (hx.alloc _) hg4 (by simp; omega) (hown.alloc _) (Nat.le_refl _)⟩
          intro he
          rcases hat4 with h | h
          · exact Hd.out (he.trans h)
          · have := Hml.out _ (he.trans h)
            simp at this
            omega
        case measure => simp [intOf]; omega
    · obtain rfl : n = j := by omega
      have hlaw := wins_law a b (at_ % n) (by omega)
      rw [hla] at hlaw
      have htk : (a.take n).map (!·) = a.map (!·) := by rw [List.take_of_length_le (by omega)]
      rw [htk] at hown
      generalize bothB a b n = bo at *
      have ha3 := ha1.ext hx
      have HW0 := Lib.hid (fun w => elect_Wins none 0 0 [] w (Rd.nil_ w none 1) (by omega))
      rw [show winsB [] = false from rfl] at HW0
      have hxW : Ext w wr := x1.trans hx
      rcases Nat.eq_zero_or_pos n with hK | hK
      · have hwa : winsB a = false := by rw [List.eq_nil_of_length_eq_zero (hla.trans hK)]; rfl
        have HA := Lib.hid (elect_Wins A n c a wr ha3 (by omega))
        rw [hwa] at HA
        clear hlaw hmore hdis HM hwa
        obtain ⟨A4, c4, rfl, _⟩ := own_form hown
        clear hown
        subst hK
        go_wp2_with fail
        refine HA.out.mono ?_
        rintro e w9 ⟨rfl, rfl⟩
        go_wp2_with fail
        refine (HW0.out _).mono ?_
        rintro e w9 ⟨rfl, rfl⟩
        go_wp2
        go_ret
        exact ⟨rfl, hxW⟩
      · obtain ⟨g4, c4, rfl, hb4, hc4, hN, _, hg4⟩ := own_bl hown hK
        obtain ⟨g3, c3, rfl, hb3', hc3, hM, hfr, hg3⟩ := own_bl hmore hK
        have hd : g3 ≠ g4 := by intro h; subst h; exact hdis rfl
        clear hown hmore hdis HM
        have hk : (at_ : Int) % ((n : Nat) : Int) = ((at_ % n : Nat) : Int) := by omega
        have hk3 : at_ % n < n := Nat.mod_lt _ hK
        obtain ⟨bq, oq, e, hcell⟩ := hM.at_ hk3
        injection e with e
        injection e with e1 e2
        subst e1 e2
        rw [Nat.zero_add] at hcell
        replace hcell : ∃ ak, wr.cell? ⟨g3, at_ % n, none⟩ = some (.bool ak) := ⟨_, hcell⟩
        obtain ⟨ak, hcell⟩ := hcell
        have hfrz := hfr (at_ % n)
        have hsz1 := x1.size
        have hEA := ha1.ext (hx.setCell (p := ⟨g3, at_ % n, none⟩) (by show w1.heap.size ≤ g3; omega) (.bool true))
        have hEB := hb1.ext (hx.setCell (p := ⟨g3, at_ % n, none⟩) (by show w1.heap.size ≤ g3; omega) (.bool true))
        have hEM := hM.set_ hk3 true
        have hEN := hN.far (p := ⟨g3, at_ % n, none⟩) (Ne.symm hd) (.bool true)
        have hxW2 := hxW.setCell (p := ⟨g3, at_ % n, none⟩) (by show w.heap.size ≤ g3; omega) (.bool true)
        clear hxW hM hN hfr
        have HA := Lib.hid (elect_Wins A n c a _ hEA (by omega))
        have HB := Lib.hid (elect_Wins B n d b _ hEB (by omega))
        have HMo := Lib.hid (elect_Wins (some ⟨g3, 0, none⟩) n c3 _ _ hEM (by omega))
        have HN := Lib.hid (elect_Wins (some ⟨g4, 0, none⟩) n c4 _ _ hEN (by omega))
        clear hEA hEB hEM hEN ha3
        generalize at_ % n = k at *
        rcases hlaw with h1 | ⟨h1, h2, h3, h4⟩ | ⟨h1, h2, rfl, h3, h4⟩
        · rw [h1] at HA
          clear h1 HB HMo HN
          go_wp2_with fail
          refine HA.out.mono ?_
          rintro e w9 ⟨rfl, rfl⟩
          go_wp2_with fail
          refine (HW0.out _).mono ?_
          rintro e w9 ⟨rfl, rfl⟩
          go_wp2
          go_ret
          exact ⟨rfl, hxW2⟩
        · rw [h1] at HA
          rw [h2] at HB
          rw [h3] at HMo
          rw [h4] at HN
          clear h1 h2 h3 h4
          go_wp2_with fail
          refine HA.out.mono ?_
          rintro e w9 ⟨rfl, rfl⟩
          go_wp2_with fail
          refine HB.out.mono ?_
          rintro e w9 ⟨rfl, rfl⟩
          go_wp2_with fail
          refine HMo.out.mono ?_
          rintro e w9 ⟨rfl, rfl⟩
          go_wp2_with fail
          refine HN.out.mono ?_
          rintro e w9 ⟨rfl, rfl⟩
          go_wp2_with fail
          refine (HW0.out _).mono ?_
          rintro e w9 ⟨rfl, rfl⟩
          go_wp2
          go_ret
          exact ⟨rfl, hxW2⟩
        · rw [h1] at HA
          rw [h2] at HB
          rw [h3] at HMo
          rw [h4] at HN
          clear h1 h2 h3 h4
          go_wp2_with fail
          refine HA.out.mono ?_
          rintro e w9 ⟨rfl, rfl⟩
          go_wp2_with fail
          refine HB.out.mono ?_
          rintro e w9 ⟨rfl, rfl⟩
          go_wp2_with fail
          refine HMo.out.mono ?_
          rintro e w9 ⟨rfl, rfl⟩
          go_wp2_with fail
          refine HN.out.mono ?_
          rintro e w9 ⟨rfl, rfl⟩
          go_wp2_with fail
          refine (HW0.out _).mono ?_
          rintro e w9 ⟨rfl, rfl⟩
          go_wp2
          go_ret
          exact ⟨rfl, hxW2⟩

set_option maxRecDepth 100000 in
set_option maxHeartbeats 3200000 in
theorem law_ElectWins_b (A : Option Addr) (n c : Nat) (a0 : List Bool) (B : Option Addr) (m d : Nat) (b0 : List Bool) (at_ : Nat) (hat : at_ < 256) (w : World) (ha0 : Bl w A n a0) (hb0 : Bl w B m b0) (hnc : n ≤ c) (hmd : m ≤ d) (h1 : m < n) (h2 : m ≤ 20) :
    Calls Try.prog 11 #[.slice A n c, .slice B m d, .int .u8 at_] w fun e w' => e = .returned (.bool true) ∧ Ext w w' := by
  have ha := ha0.upto (hi := m) (by omega)
  have hb := hb0.upto (hi := m) (by omega)
  clear ha0 hb0
  generalize a0.take m = a at *
  generalize b0.take m = b at *
  have j1 := dec_t (show (m : Int) < n by omega)
  have j2 := dec_f (show ¬ (20 : Int) < m by omega)
  go_enter Try.func11, Try.ntmps11
  go_wp2_with fail
  refine (law18_shown _).mono ?_
  rintro e w1 ⟨rfl, x1⟩
  have ha1 := ha.ext x1
  have hb1 := hb.ext x1
  have hla := ha.len
  have hlb := hb.len
  have h0 := own_empty (w1.alloc (.cells #[] 4)) 4 1
  have hn0 := (own_empty w1 4 1).alloc (.cells #[] 4)
  rw [show (w1.alloc (.cells #[] 4)).heap.size = w1.heap.size + 1 by simp] at h0
  clear ha hb
  go_wp2_with (at_builtin; refine wpList_app boolsT (by omega) _ rfl rfl rfl h0 rfl ((ha1.alloc _).alloc _) (bools_one _) (by unfold maxLen; omega) (by omega) (by simp) ?_; intro v3 w3 hown3 hg3 hat3)
  have hx3 : Ext w1 w3 := Below.app (((Ext.refl w1).alloc _).alloc _) hg3 (by simp; omega) h0 (by omega)
  have hnot := hn0.kept hg3 (.inr (by show some w1.heap.size ≠ some (w1.heap.size + 1); intro h; injection h with h; omega))
  have hne : v3.ownBlock ≠ some w1.heap.size := by
    rcases hat3 with h | h
    · rw [h]; show some (w1.heap.size + 1) ≠ some w1.heap.size; intro h; injection h with h; omega
    · rw [h]; intro h; injection h with h; simp at h; omega
  clear hn0 h0 hg3 hat3
  simp only [List.nil_append, Nat.zero_add] at hown3
  have HM := Lib.hid hown3; clear hown3
  go_loopw [9, 10, 12] (fun bo v i wr => ∃ j : Nat, i = .int .i64 j ∧ j ≤ m ∧ bo = .bool (bothB a b j) ∧ wr.ownsRow w1.heap.size 4 1 v j (((a.take j).map (!·)).map Value.bool) ∧ wr.ownsRow (w1.heap.size + 1) 4 1 v3 m (a.map Value.bool) ∧ v3.ownBlock ≠ v.ownBlock ∧ Ext w1 wr) (fun _ _ i _ => m - (intOf i).toNat)
  case atStart => exact ⟨0, rfl, by omega, rfl, by simpa using hnot, HM.out, hne, hx3⟩
  case round =>
    obtain ⟨j, rfl, hj, rfl, hown, hmore, hdis, hx⟩ := hrel
    clear hx3 hnot hne
    by_cases hjn : j < m
    · obtain ⟨ba, oa, rfl, c0⟩ := (ha1.ext hx).at_ hjn
      obtain ⟨bb, ob, rfl, c1⟩ := (hb1.ext hx).at_ hjn
      have hsn := bothB_succ a b j (by omega) (by omega)
      have htk : ((a.take (j + 1)).map (!·)).map Value.bool = ((a.take j).map (!·)).map Value.bool ++ [.bool (!a[j])] := by rw [List.take_succ_eq_append_getElem (by omega), List.map_append, List.map_append]; rfl
      generalize a[j] = p at *
      generalize b[j] = q at *
      have hszw := hx.size
      have Hsn := Lib.hid hsn; clear hsn
      have Htk := Lib.hid htk; clear htk
      have Hm := Lib.hid hmore; clear hmore
      have Hd := Lib.hid hdis; clear hdis
      have hmlt : ∀ g, v3.ownBlock = some g → g < wr.heap.size := fun g hg => (Hm.out.lt g hg).2
      have Hml := Lib.hid hmlt; clear hmlt
      generalize bothB a b j = bo at *
      rcases bo with _ | _ <;> rcases p with _ | _ <;> rcases q with _ | _
      all_goals
        go_wp2_with (at_builtin; refine wpList_app boolsT (by omega) _ rfl rfl rfl (hown.alloc _) rfl (rd_new1 _ _ _) (one1 rfl) (by unfold maxLen; omega) (by omega) (by simp; omega) ?_; intro v4 w4 hown4 hg4 hat4)
        go_roundw
        case rel =>
          refine ⟨j + 1, val_int (by omega), by omega, by rw [Hsn.out]; rfl, own_to hown4 (Nat.le_refl _) rfl (by rw [Htk.out]; rfl), (Hm.out.alloc _).kept hg4 (.inr Hd.out), ?_, Below.app (hx.alloc _) hg4 (by simp; omega) (hown.alloc _) (Nat.le_refl _)⟩
          intro he
          rcases hat4 with h | h
          · exact Hd.out (he.trans h)
          · have := Hml.out _ (he.trans h)
            simp at this
            omega
        case measure => simp [intOf]; omega
    · obtain rfl : m = j := by omega
      have hlaw := wins_law a b (at_ % m) (by omega)
      rw [hla] at hlaw
      have htk : (a.take m).map (!·) = a.map (!·) := by rw [List.take_of_length_le (by omega)]
      rw [htk] at hown
      generalize bothB a b m = bo at *
      have ha3 := ha1.ext hx
      have HW0 := Lib.hid (fun w => elect_Wins none 0 0 [] w (Rd.nil_ w none 1) (by omega))
      rw [show winsB [] = false from rfl] at HW0
      have hxW : Ext w wr := x1.trans hx
      rcases Nat.eq_zero_or_pos m with hK | hK
      · have hwa : winsB a = false := by rw [List.eq_nil_of_length_eq_zero (hla.trans hK)]; rfl
        have HA := Lib.hid (elect_Wins A m c a wr ha3 (by omega))
        rw [hwa] at HA
        clear hlaw hmore hdis HM hwa
        obtain ⟨A4, c4, rfl, _⟩ := own_form hown
        clear hown
        subst hK
        go_wp2_with fail
        refine HA.out.mono ?_
        rintro e w9 ⟨rfl, rfl⟩
        go_wp2_with fail
        refine (HW0.out _).mono ?_
        rintro e w9 ⟨rfl, rfl⟩
        go_wp2
        go_ret
        exact ⟨rfl, hxW⟩
      · obtain ⟨g4, c4, rfl, hb4, hc4, hN, _, hg4⟩ := own_bl hown hK
        obtain ⟨g3, c3, rfl, hb3', hc3, hM, hfr, hg3⟩ := own_bl hmore hK
        have hd : g3 ≠ g4 := by intro h; subst h; exact hdis rfl
        clear hown hmore hdis HM
        have hk : (at_ : Int) % ((m : Nat) : Int) = ((at_ % m : Nat) : Int) := by omega
        have hk3 : at_ % m < m := Nat.mod_lt _ hK
        obtain ⟨bq, oq, e, hcell⟩ := hM.at_ hk3
        injection e with e
        injection e with e1 e2
        subst e1 e2
        rw [Nat.zero_add] at hcell
        replace hcell : ∃ ak, wr.cell? ⟨g3, at_ % m, none⟩ = some (.bool ak) := ⟨_, hcell⟩
        obtain ⟨ak, hcell⟩ := hcell
        have hfrz := hfr (at_ % m)
        have hsz1 := x1.size
        have hEA := ha1.ext (hx.setCell (p := ⟨g3, at_ % m, none⟩) (by show w1.heap.size ≤ g3; omega) (.bool true))
        have hEB := hb1.ext (hx.setCell (p := ⟨g3, at_ % m, none⟩) (by show w1.heap.size ≤ g3; omega) (.bool true))
        have hEM := hM.set_ hk3 true
        have hEN := hN.far (p := ⟨g3, at_ % m, none⟩) (Ne.symm hd) (.bool true)
        have hxW2 := hxW.setCell (p := ⟨g3, at_ % m, none⟩) (by show w.heap.size ≤ g3; omega) (.bool true)
        clear hxW hM hN hfr
        have HA := Lib.hid (elect_Wins A m c a _ hEA (by omega))
        have HB := Lib.hid (elect_Wins B m d b _ hEB (by omega))
        have HMo := Lib.hid (elect_Wins (some ⟨g3, 0, none⟩) m c3 _ _ hEM (by omega))
        have HN := Lib.hid (elect_Wins (some ⟨g4, 0, none⟩) m c4 _ _ hEN (by omega))
        clear hEA hEB hEM hEN ha3
        generalize at_ % m = k at *
        rcases hlaw with h1 | ⟨h1, h2, h3, h4⟩ | ⟨h1, h2, rfl, h3, h4⟩
        · rw [h1] at HA
          clear h1 HB HMo HN
          go_wp2_with fail
          refine HA.out.mono ?_
          rintro e w9 ⟨rfl, rfl⟩
          go_wp2_with fail
          refine (HW0.out _).mono ?_
          rintro e w9 ⟨rfl, rfl⟩
          go_wp2
          go_ret
          exact ⟨rfl, hxW2⟩
        · rw [h1] at HA
          rw [h2] at HB
          rw [h3] at HMo
          rw [h4] at HN
          clear h1 h2 h3 h4
          go_wp2_with fail
          refine HA.out.mono ?_
          rintro e w9 ⟨rfl, rfl⟩
          go_wp2_with fail
          refine HB.out.mono ?_
          rintro e w9 ⟨rfl, rfl⟩
          go_wp2_with fail
          refine HMo.out.mono ?_
          rintro e w9 ⟨rfl, rfl⟩
          go_wp2_with fail
          refine HN.out.mono ?_
          rintro e w9 ⟨rfl, rfl⟩
          go_wp2_with fail
          refine (HW0.out _).mono ?_
          rintro e w9 ⟨rfl, rfl⟩
          go_wp2
          go_ret
          exact ⟨rfl, hxW2⟩
        · rw [h1] at HA
          rw [h2] at HB
          rw [h3] at HMo
          rw [h4] at HN
          clear h1 h2 h3 h4
          go_wp2_with fail
          refine HA.out.mono ?_
          rintro e w9 ⟨rfl, rfl⟩
          go_wp2_with fail
          refine HB.out.mono ?_
          rintro e w9 ⟨rfl, rfl⟩
          go_wp2_with fail
          refine HMo.out.mono ?_
          rintro e w9 ⟨rfl, rfl⟩
          go_wp2_with fail
          refine HN.out.mono ?_
          rintro e w9 ⟨rfl, rfl⟩
          go_wp2_with fail
          refine (HW0.out _).mono ?_
          rintro e w9 ⟨rfl, rfl⟩
          go_wp2
          go_ret
          exact ⟨rfl, hxW2⟩

set_option maxRecDepth 100000 in
set_option maxHeartbeats 3200000 in
theorem law_ElectWins_c (A : Option Addr) (n c : Nat) (a0 : List Bool) (B : Option Addr) (m d : Nat) (b0 : List Bool) (at_ : Nat) (hat : at_ < 256) (w : World) (ha0 : Bl w A n a0) (hb0 : Bl w B m b0) (hnc : n ≤ c) (hmd : m ≤ d) (h1 : 20 < n) (h2 : 20 < m) :
    Calls Try.prog 11 #[.slice A n c, .slice B m d, .int .u8 at_] w fun e w' => e = .returned (.bool true) ∧ Ext w w' := by
  have ha := ha0.upto (hi := 20) (by omega)
  have hb := hb0.upto (hi := 20) (by omega)
  clear ha0 hb0
  generalize a0.take 20 = a at *
  generalize b0.take 20 = b at *
  have j1 := dec_t (show (20 : Int) < n by omega)
  have j2 := dec_t (show (20 : Int) < m by omega)
  go_enter Try.func11, Try.ntmps11
  go_wp2_with fail
  refine (law18_shown _).mono ?_
  rintro e w1 ⟨rfl, x1⟩
  have ha1 := ha.ext x1
  have hb1 := hb.ext x1
  have hla := ha.len
  have hlb := hb.len
  have h0 := own_empty (w1.alloc (.cells #[] 4)) 4 1
  have hn0 := (own_empty w1 4 1).alloc (.cells #[] 4)
  rw [show (w1.alloc (.cells #[] 4)).heap.size = w1.heap.size + 1 by simp] at h0
  clear ha hb
  go_wp2_with (at_builtin; refine wpList_app boolsT (by omega) _ rfl rfl rfl h0 rfl ((ha1.alloc _).alloc _) (bools_one _) (by unfold maxLen; omega) (by omega) (by simp) ?_; intro v3 w3 hown3 hg3 hat3)
  have hx3 : Ext w1 w3 := Below.app (((Ext.refl w1).alloc _).alloc _) hg3 (by simp; omega) h0 (by omega)
  have hnot := hn0.kept hg3 (.inr (by show some w1.heap.size ≠ some (w1.heap.size + 1); intro h; injection h with h; omega))
  have hne : v3.ownBlock ≠ some w1.heap.size := by
    rcases hat3 with h | h
    · rw [h]; show some (w1.heap.size + 1) ≠ some w1.heap.size; intro h; injection h with h; omega
    · rw [h]; intro h; injection h with h; simp at h; omega
  clear hn0 h0 hg3 hat3
  simp only [List.nil_append, Nat.zero_add] at hown3
  have HM := Lib.hid hown3; clear hown3
  go_loopw [9, 10, 12] (fun bo v i wr => ∃ j : Nat, i = .int .i64 j ∧ j ≤ 20 ∧ bo = .bool (bothB a b j) ∧ wr.ownsRow w1.heap.size 4 1 v j (((a.take j).map (!·)).map Value.bool) ∧ wr.ownsRow (w1.heap.size + 1) 4 1 v3 20 (a.map Value.bool) ∧ v3.ownBlock ≠ v.ownBlock ∧ Ext w1 wr) (fun _ _ i _ => 20 - (intOf i).toNat)
  case atStart => exact ⟨0, rfl, by omega, rfl, by simpa using hnot, HM.out, hne, hx3⟩
  case round =>
    obtain ⟨j, rfl, hj, rfl, hown, hmore, hdis, hx⟩ := hrel
    clear hx3 hnot hne
    by_cases hjn : j < 20
    · obtain ⟨ba, oa, rfl, c0⟩ := (ha1.ext hx).at_ hjn
      obtain ⟨bb, ob, rfl, c1⟩ := (hb1.ext hx).at_ hjn
      have hsn := bothB_succ a b j (by omega) (by omega)
      have htk : ((a.take (j + 1)).map (!·)).map Value.bool = ((a.take j).map (!·)).map Value.bool ++ [.bool (!a[j])] := by rw [List.take_succ_eq_append_getElem (by omega), List.map_append, List.map_append]; rfl
      generalize a[j] = p at *
      generalize b[j] = q at *
      have hszw := hx.size
      have Hsn := Lib.hid hsn; clear hsn
      have Htk := Lib.hid htk; clear htk
      have Hm := Lib.hid hmore; clear hmore
      have Hd := Lib.hid hdis; clear hdis
      have hmlt : ∀ g, v3.ownBlock = some g → g < wr.heap.size := fun g hg => (Hm.out.lt g hg).2
      have Hml := Lib.hid hmlt; clear hmlt
      generalize bothB a b j = bo at *
      rcases bo with _ | _ <;> rcases p with _ | _ <;> rcases q with _ | _
      all_goals
        go_wp2_with (at_builtin; refine wpList_app boolsT (by omega) _ rfl rfl rfl (hown.alloc _) rfl (rd_new1 _ _ _) (one1 rfl) (by unfold maxLen; omega) (by omega) (by simp; omega) ?_; intro v4 w4 hown4 hg4 hat4)
        go_roundw
        case rel =>
          refine ⟨j + 1, val_int (by omega), by omega, by rw [Hsn.out]; rfl, own_to hown4 (Nat.le_refl _) rfl (by rw [Htk.out]; rfl), (Hm.out.alloc _).kept hg4 (.inr Hd.out), ?_, Below.app (hx.alloc _) hg4 (by simp; omega) (hown.alloc _) (Nat.le_refl _)⟩
          intro he
          rcases hat4 with h | h
          · exact Hd.out (he.trans h)
          · have := Hml.out _ (he.trans h)
            simp at this
            omega
        case measure => simp [intOf]; omega
    · obtain rfl : 20 = j := by omega
      have hlaw := wins_law a b (at_ % 20) (by omega)
      rw [hla] at hlaw
      have htk : (a.take 20).map (!·) = a.map (!·) := by rw [List.take_of_length_le (by omega)]
      rw [htk] at hown
      generalize bothB a b 20 = bo at *
      have ha3 := ha1.ext hx
      have HW0 := Lib.hid (fun w => elect_Wins none 0 0 [] w (Rd.nil_ w none 1) (by omega))
      rw [show winsB [] = false from rfl] at HW0
      have hxW : Ext w wr := x1.trans hx
      rcases Nat.eq_zero_or_pos 20 with hK | hK
      · omega
      · obtain ⟨g4, c4, rfl, hb4, hc4, hN, _, hg4⟩ := own_bl hown hK
        obtain ⟨g3, c3, rfl, hb3', hc3, hM, hfr, hg3⟩ := own_bl hmore hK
        have hd : g3 ≠ g4 := by intro h; subst h; exact hdis rfl
        clear hown hmore hdis HM
        have hk : (at_ : Int) % (20 : Int) = ((at_ % 20 : Nat) : Int) := by omega
        have hk3 : at_ % 20 < 20 := Nat.mod_lt _ hK
        obtain ⟨bq, oq, e, hcell⟩ := hM.at_ hk3
        injection e with e
        injection e with e1 e2
        subst e1 e2
        rw [Nat.zero_add] at hcell
        replace hcell : ∃ ak, wr.cell? ⟨g3, at_ % 20, none⟩ = some (.bool ak) := ⟨_, hcell⟩
        obtain ⟨ak, hcell⟩ := hcell
        have hfrz := hfr (at_ % 20)
        have hsz1 := x1.size
        have hEA := ha1.ext (hx.setCell (p := ⟨g3, at_ % 20, none⟩) (by show w1.heap.size ≤ g3; omega) (.bool true))
        have hEB := hb1.ext (hx.setCell (p := ⟨g3, at_ % 20, none⟩) (by show w1.heap.size ≤ g3; omega) (.bool true))
        have hEM := hM.set_ hk3 true
        have hEN := hN.far (p := ⟨g3, at_ % 20, none⟩) (Ne.symm hd) (.bool true)
        have hxW2 := hxW.setCell (p := ⟨g3, at_ % 20, none⟩) (by show w.heap.size ≤ g3; omega) (.bool true)
        clear hxW hM hN hfr
        have HA := Lib.hid (elect_Wins A 20 c a _ hEA (by omega))
        have HB := Lib.hid (elect_Wins B 20 d b _ hEB (by omega))
        have HMo := Lib.hid (elect_Wins (some ⟨g3, 0, none⟩) 20 c3 _ _ hEM (by omega))
        have HN := Lib.hid (elect_Wins (some ⟨g4, 0, none⟩) 20 c4 _ _ hEN (by omega))
        clear hEA hEB hEM hEN ha3
        generalize at_ % 20 = k at *
        rcases hlaw with h1 | ⟨h1, h2, h3, h4⟩ | ⟨h1, h2, rfl, h3, h4⟩
        · rw [h1] at HA
          clear h1 HB HMo HN
          go_wp2_with fail
          refine HA.out.mono ?_
          rintro e w9 ⟨rfl, rfl⟩
          go_wp2_with fail
          refine (HW0.out _).mono ?_
          rintro e w9 ⟨rfl, rfl⟩
          go_wp2
          go_ret
          exact ⟨rfl, hxW2⟩
        · rw [h1] at HA
          rw [h2] at HB
          rw [h3] at HMo
          rw [h4] at HN
          clear h1 h2 h3 h4
          go_wp2_with fail
          refine HA.out.mono ?_
          rintro e w9 ⟨rfl, rfl⟩
          go_wp2_with fail
          refine HB.out.mono ?_
          rintro e w9 ⟨rfl, rfl⟩
          go_wp2_with fail
          refine HMo.out.mono ?_
          rintro e w9 ⟨rfl, rfl⟩
          go_wp2_with fail
          refine HN.out.mono ?_
          rintro e w9 ⟨rfl, rfl⟩
          go_wp2_with fail
          refine (HW0.out _).mono ?_
          rintro e w9 ⟨rfl, rfl⟩
          go_wp2
          go_ret
          exact ⟨rfl, hxW2⟩
        · rw [h1] at HA
          rw [h2] at HB
          rw [h3] at HMo
          rw [h4] at HN
          clear h1 h2 h3 h4
          go_wp2_with fail
          refine HA.out.mono ?_
          rintro e w9 ⟨rfl, rfl⟩
          go_wp2_with fail
          refine HB.out.mono ?_
          rintro e w9 ⟨rfl, rfl⟩
          go_wp2_with fail
          refine HMo.out.mono ?_
          rintro e w9 ⟨rfl, rfl⟩
          go_wp2_with fail
          refine HN.out.mono ?_
          rintro e w9 ⟨rfl, rfl⟩
          go_wp2_with fail
          refine (HW0.out _).mono ?_
          rintro e w9 ⟨rfl, rfl⟩
          go_wp2
          go_ret
          exact ⟨rfl, hxW2⟩

theorem law_ElectWins (A : Option Addr) (n c : Nat) (a : List Bool) (B : Option Addr) (m d : Nat) (b : List Bool) (x : Int) (hx : 0 ≤ x ∧ x < 256) (w : World) (ha : Bl w A n a) (hb : Bl w B m b) (hnc : n ≤ c) (hmd : m ≤ d) :
    Calls Try.prog 11 #[.slice A n c, .slice B m d, .int .u8 x] w fun e w' => e = .returned (.bool true) ∧ Ext w w' := by
  obtain ⟨k, rfl⟩ := Int.eq_ofNat_of_zero_le hx.1
  by_cases h1 : n ≤ m
  · by_cases h2 : n ≤ 20
    · exact law_ElectWins_a A n c a B m d b k (by omega) w ha hb hnc hmd h1 h2
    · exact law_ElectWins_c A n c a B m d b k (by omega) w ha hb hnc hmd (by omega) (by omega)
  · by_cases h2 : m ≤ 20
    · exact law_ElectWins_b A n c a B m d b k (by omega) w ha hb hnc hmd (by omega) h2
    · exact law_ElectWins_c A n c a B m d b k (by omega) w ha hb hnc hmd (by omega) (by omega)
end Go.Proofs.Ytcdnjhcddbkciaa
