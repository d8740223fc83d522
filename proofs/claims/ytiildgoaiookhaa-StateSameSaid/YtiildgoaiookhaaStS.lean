/- The walks of same, sameSnap, EqualFunc and Same of a catalogue. (The head is printed by wip/tools/stsame.py.) -/
import Derived.Test.YtiildgoaiookhaaStM
namespace Go.Proofs.Ytiildgoaiookhaa
open Go.RowKit

theorem run_neq_cv (f g : CV) (w : World) : (binOp .neq 45 (.agg #[.int .i64 f.client, .int .i64 f.seq, .int .i64 f.code, .int .i64 f.n]) (.agg #[.int .i64 g.client, .int .i64 g.seq, .int .i64 g.code, .int .i64 g.n])).run Try.prog w = .ok (.bool (!decide (f = g))) w := by
  obtain ⟨a, b, c, d⟩ := f
  obtain ⟨a', b', c', d'⟩ := g
  simp only [go_sem, CV.mk.injEq]
  by_cases h1 : a = a' <;> by_cases h2 : b = b' <;> by_cases h3 : c = c' <;> by_cases h4 : d = d' <;> simp [go_sem, h1, h2, h3, h4]
theorem run_neq_ov (f g : OV) (w : World) : (binOp .neq 47 (.agg #[.int .i64 f.set, .int .i64 f.client]) (.agg #[.int .i64 g.set, .int .i64 g.client])).run Try.prog w = .ok (.bool (!decide (f = g))) w := by
  obtain ⟨a, b⟩ := f
  obtain ⟨a', b'⟩ := g
  simp only [go_sem, OV.mk.injEq]
  by_cases h1 : a = a' <;> by_cases h2 : b = b' <;> simp [go_sem, h1, h2]
theorem take_eq_snoc {α : Type} {l m : List α} {j : Nat} (hl : j < l.length) (hm : j < m.length) (h : l.take j = m.take j) (he : l[j] = m[j]) : l.take (j + 1) = m.take (j + 1) := by
  rw [List.take_succ_eq_append_getElem hl, List.take_succ_eq_append_getElem hm, h, he]
theorem take_ne {α : Type} {l m : List α} {j : Nat} (hl : j < l.length) (hm : j < m.length) (he : l[j] ≠ m[j]) : l ≠ m := by
  rintro rfl; exact he rfl

set_option maxRecDepth 100000 in
set_option maxHeartbeats 800000 in
theorem st_sameSess (A A' : Option Addr) (n n' c c' : Nat) (l m : List CV) (b : Bool) (hb : decide (l = m) = b) (w : World) (h1 : Ts w A n l) (h2 : Ts w A' n' m) (hn : n ≤ 1000000) (hn' : n' ≤ 1000000) :
    Calls Try.prog 52 #[.slice A n c, .slice A' n' c'] w fun e w' => e = .returned (.bool b) ∧ Ext w w' := by
  have hl1 := h1.len
  have hl2 := h2.len
  by_cases hnn : n = n'
  case neg =>
    have hf : b = false := by rw [← hb]; simp; intro e; rw [e] at hl1; omega
    subst hf
    have hk := bne_t (show ((n : Nat) : Int) ≠ n' by omega)
    have hk' := beq_f (show ((n : Nat) : Int) ≠ n' by omega)
    clear hb h1 h2 hl1 hl2
    go_enter Try.func52, Try.ntmps52
    go_wp2
    go_ret
    exact ⟨rfl, Ext.refl w⟩
  subst hnn
  have Hb := Lib.hid hb
  clear hb
  go_enter Try.func52, Try.ntmps52
  go_wp2_with fail
  go_loopw [13] (fun i wr => ∃ j : Nat, i = .int .i64 j ∧ j ≤ n ∧ l.take j = m.take j ∧ Ext w wr) (fun i _ => n - (intOf i).toNat)
  case atStart => exact ⟨0, rfl, by omega, rfl, Ext.refl w⟩
  case round =>
    obtain ⟨j, rfl, hj, hpre, hx⟩ := hrel
    by_cases hjn : j < n
    · have hjl : j < l.length := by omega
      have hjm : j < m.length := by omega
      obtain ⟨bb, off, rfl, hlt, hc⟩ := (h1.ext hx).at_ hjn
      obtain ⟨bb', off', rfl, hlt', hd⟩ := (h2.ext hx).at_ hjn
      have HE := Lib.hid (fun he => take_eq_snoc hjl hjm hpre he)
      have HNe := Lib.hid (fun he => take_ne hjl hjm he)
      generalize l[j] = f at *
      generalize m[j] = g at *
      have c0 : wr.cell? ⟨bb, off + j * 4, none⟩ = some (.int .i64 f.client) := hc 0 (by omega)
      have c1 : wr.cell? ⟨bb, off + j * 4 + 1, none⟩ = some (.int .i64 f.seq) := hc 1 (by omega)
      have c2 : wr.cell? ⟨bb, off + j * 4 + 2, none⟩ = some (.int .i64 f.code) := hc 2 (by omega)
      have c3 : wr.cell? ⟨bb, off + j * 4 + 3, none⟩ = some (.int .i64 f.n) := hc 3 (by omega)
      have d0 : wr.cell? ⟨bb', off' + j * 4, none⟩ = some (.int .i64 g.client) := hd 0 (by omega)
      have d1 : wr.cell? ⟨bb', off' + j * 4 + 1, none⟩ = some (.int .i64 g.seq) := hd 1 (by omega)
      have d2 : wr.cell? ⟨bb', off' + j * 4 + 2, none⟩ = some (.int .i64 g.code) := hd 2 (by omega)
      have d3 : wr.cell? ⟨bb', off' + j * 4 + 3, none⟩ = some (.int .i64 g.n) := hd 3 (by omega)
      clear hc hd
      clear hpre
      have hj0 : (0 : Int) ≤ j := by omega
      have hj1 : (j : Int) < n := by omega
      by_cases he : f = g
      · have H1 := Lib.hid (HE.out he)
        have hq := fun w => run_neq_cv f g w
        rw [show decide (f = g) = true by simp [he]] at hq
        simp only [Bool.not_true] at hq
        clear HE HNe he
        go_wp2
        go_quiet (fail)
        go_wp2
        go_roundw
        case rel => exact ⟨j + 1, val_int (by omega), by omega, H1.out, hx.drewN _⟩
        case measure => simp [intOf]; omega
      · have H1 : Hid (b = false) := Lib.hid (by rw [← Hb.out]; simpa using HNe.out he)
        have hq := fun w => run_neq_cv f g w
        rw [show decide (f = g) = false by simp [he]] at hq
        simp only [Bool.not_false] at hq
        clear HE HNe he
        go_wp2
        go_quiet (fail)
        go_wp2
        go_ret
        exact ⟨by rw [H1.out] <;> rfl, hx.drewN _⟩
    · obtain rfl : n = j := by omega
      rw [List.take_of_length_le (by omega), List.take_of_length_le (by omega)] at hpre
      have H1 : Hid (b = true) := Lib.hid (by rw [← Hb.out, hpre]; simp)
      clear hpre
      go_wp2
      go_ret
      exact ⟨by rw [H1.out] <;> rfl, hx⟩

set_option maxRecDepth 100000 in
set_option maxHeartbeats 800000 in
theorem st_sameOpen (A A' : Option Addr) (n n' c c' : Nat) (l m : List OV) (b : Bool) (hb : decide (l = m) = b) (w : World) (h1 : Ts w A n l) (h2 : Ts w A' n' m) (hn : n ≤ 1000000) (hn' : n' ≤ 1000000) :
    Calls Try.prog 53 #[.slice A n c, .slice A' n' c'] w fun e w' => e = .returned (.bool b) ∧ Ext w w' := by
  have hl1 := h1.len
  have hl2 := h2.len
  by_cases hnn : n = n'
  case neg =>
    have hf : b = false := by rw [← hb]; simp; intro e; rw [e] at hl1; omega
    subst hf
    have hk := bne_t (show ((n : Nat) : Int) ≠ n' by omega)
    have hk' := beq_f (show ((n : Nat) : Int) ≠ n' by omega)
    clear hb h1 h2 hl1 hl2
    go_enter Try.func53, Try.ntmps53
    go_wp2
    go_ret
    exact ⟨rfl, Ext.refl w⟩
  subst hnn
  have Hb := Lib.hid hb
  clear hb
  go_enter Try.func53, Try.ntmps53
  go_wp2_with fail
  go_loopw [13] (fun i wr => ∃ j : Nat, i = .int .i64 j ∧ j ≤ n ∧ l.take j = m.take j ∧ Ext w wr) (fun i _ => n - (intOf i).toNat)
  case atStart => exact ⟨0, rfl, by omega, rfl, Ext.refl w⟩
  case round =>
    obtain ⟨j, rfl, hj, hpre, hx⟩ := hrel
    by_cases hjn : j < n
    · have hjl : j < l.length := by omega
      have hjm : j < m.length := by omega
      obtain ⟨bb, off, rfl, hlt, hc⟩ := (h1.ext hx).at_ hjn
      obtain ⟨bb', off', rfl, hlt', hd⟩ := (h2.ext hx).at_ hjn
      have HE := Lib.hid (fun he => take_eq_snoc hjl hjm hpre he)
      have HNe := Lib.hid (fun he => take_ne hjl hjm he)
      generalize l[j] = f at *
      generalize m[j] = g at *
      have c0 : wr.cell? ⟨bb, off + j * 2, none⟩ = some (.int .i64 f.set) := hc 0 (by omega)
      have c1 : wr.cell? ⟨bb, off + j * 2 + 1, none⟩ = some (.int .i64 f.client) := hc 1 (by omega)
      have d0 : wr.cell? ⟨bb', off' + j * 2, none⟩ = some (.int .i64 g.set) := hd 0 (by omega)
      have d1 : wr.cell? ⟨bb', off' + j * 2 + 1, none⟩ = some (.int .i64 g.client) := hd 1 (by omega)
      clear hc hd
      clear hpre
      have hj0 : (0 : Int) ≤ j := by omega
      have hj1 : (j : Int) < n := by omega
      by_cases he : f = g
      · have H1 := Lib.hid (HE.out he)
        have hq := fun w => run_neq_ov f g w
        rw [show decide (f = g) = true by simp [he]] at hq
        simp only [Bool.not_true] at hq
        clear HE HNe he
        go_wp2
        go_quiet (fail)
        go_wp2
        go_roundw
        case rel => exact ⟨j + 1, val_int (by omega), by omega, H1.out, hx.drewN _⟩
        case measure => simp [intOf]; omega
      · have H1 : Hid (b = false) := Lib.hid (by rw [← Hb.out]; simpa using HNe.out he)
        have hq := fun w => run_neq_ov f g w
        rw [show decide (f = g) = false by simp [he]] at hq
        simp only [Bool.not_false] at hq
        clear HE HNe he
        go_wp2
        go_quiet (fail)
        go_wp2
        go_ret
        exact ⟨by rw [H1.out] <;> rfl, hx.drewN _⟩
    · obtain rfl : n = j := by omega
      rw [List.take_of_length_le (by omega), List.take_of_length_le (by omega)] at hpre
      have H1 : Hid (b = true) := Lib.hid (by rw [← Hb.out, hpre]; simp)
      clear hpre
      go_wp2
      go_ret
      exact ⟨by rw [H1.out] <;> rfl, hx⟩

set_option maxRecDepth 100000 in
set_option maxHeartbeats 800000 in
theorem st_sameInt (A A' : Option Addr) (n n' c c' : Nat) (l m : List Int) (b : Bool) (hb : decide (l = m) = b) (w : World) (h1 : Is w A n l) (h2 : Is w A' n' m) (hn : n ≤ 1000000) (hn' : n' ≤ 1000000) :
    Calls Try.prog 93 #[.slice A n c, .slice A' n' c'] w fun e w' => e = .returned (.bool b) ∧ Ext w w' := by
  have hl1 := h1.len
  have hl2 := h2.len
  by_cases hnn : n = n'
  case neg =>
    have hf : b = false := by rw [← hb]; simp; intro e; rw [e] at hl1; omega
    subst hf
    have hk := bne_t (show ((n : Nat) : Int) ≠ n' by omega)
    have hk' := beq_f (show ((n : Nat) : Int) ≠ n' by omega)
    clear hb h1 h2 hl1 hl2
    go_enter Try.func93, Try.ntmps93
    go_wp2
    go_ret
    exact ⟨rfl, Ext.refl w⟩
  subst hnn
  have Hb := Lib.hid hb
  clear hb
  go_enter Try.func93, Try.ntmps93
  go_wp2_with fail
  go_loopw [13] (fun i wr => ∃ j : Nat, i = .int .i64 j ∧ j ≤ n ∧ l.take j = m.take j ∧ Ext w wr) (fun i _ => n - (intOf i).toNat)
  case atStart => exact ⟨0, rfl, by omega, rfl, Ext.refl w⟩
  case round =>
    obtain ⟨j, rfl, hj, hpre, hx⟩ := hrel
    by_cases hjn : j < n
    · have hjl : j < l.length := by omega
      have hjm : j < m.length := by omega
      obtain ⟨bb, off, rfl, c0⟩ := (h1.ext hx).at_ hjn
      obtain ⟨bb', off', rfl, d0⟩ := (h2.ext hx).at_ hjn
      have HE := Lib.hid (fun he => take_eq_snoc hjl hjm hpre he)
      have HNe := Lib.hid (fun he => take_ne hjl hjm he)
      generalize l[j] = f at *
      generalize m[j] = g at *
      clear hpre
      have hj0 : (0 : Int) ≤ j := by omega
      have hj1 : (j : Int) < n := by omega
      by_cases he : f = g
      · have H1 := Lib.hid (HE.out he)
        have hq := bne_f he
        clear HE HNe he
        go_wp2
        go_quiet (fail)
        go_wp2
        go_roundw
        case rel => exact ⟨j + 1, val_int (by omega), by omega, H1.out, hx.drewN _⟩
        case measure => simp [intOf]; omega
      · have H1 : Hid (b = false) := Lib.hid (by rw [← Hb.out]; simpa using HNe.out he)
        have hq := bne_t he
        clear HE HNe he
        go_wp2
        go_quiet (fail)
        go_wp2
        go_ret
        exact ⟨by rw [H1.out] <;> rfl, hx.drewN _⟩
    · obtain rfl : n = j := by omega
      rw [List.take_of_length_le (by omega), List.take_of_length_le (by omega)] at hpre
      have H1 : Hid (b = true) := Lib.hid (by rw [← Hb.out, hpre]; simp)
      clear hpre
      go_wp2
      go_ret
      exact ⟨by rw [H1.out] <;> rfl, hx⟩

theorem bytes_ne {a b : ByteArray} (h : a ≠ b) : (a.toList == b.toList) = false := by
  rw [beq_eq_false_iff_ne]
  intro e
  rw [ByteArray.toList_eq, ByteArray.toList_eq] at e
  exact h (ByteArray.ext (Array.ext' e))
/-- are two snapshots the same -/
def nvEq (a b : NV) : Bool := decide (a.id = b.id) && (decide (a.set = b.set) && (decide (a.held = b.held) && (decide (a.tag = b.tag) && decide (a.ch = b.ch))))
theorem nvEq_iff {a b : NV} : nvEq a b = true ↔ a.id = b.id ∧ a.set = b.set ∧ a.held = b.held ∧ a.tag = b.tag ∧ a.ch = b.ch := by
  unfold nvEq; simp
set_option maxRecDepth 100000 in
set_option maxHeartbeats 1600000 in
theorem st_sameSnap (f g : NV) (b : Bool) (hb : nvEq f g = b) (w : World) (hf : f.Ok w) (hg : g.Ok w) (hl : f.len ≤ 1000000) (hm : g.len ≤ 1000000) :
    Calls Try.prog 55 #[.agg f.cells.toArray, .agg g.cells.toArray] w fun e w' => e = .returned (.bool b) ∧ Ext w w' := by
  have hc1 := hf.cs
  have hc2 := hg.cs
  obtain ⟨a1, s1, A1, ln1, cp1, ch1, hd1, tg1⟩ := f
  obtain ⟨a2, s2, A2, ln2, cp2, ch2, hd2, tg2⟩ := g
  unfold NV.cells
  unfold nvEq at hb
  dsimp only at hb hc1 hc2 hl hm ⊢
  have xa : Ext w ((w.alloc (.cells #[.int .i64 a1, .int .i64 s1, .slice A1 ln1 cp1, .bool hd1, .string tg1] 33)).alloc (.cells #[.int .i64 a2, .int .i64 s2, .slice A2 ln2 cp2, .bool hd2, .string tg2] 33)) := ((Ext.refl w).alloc _).alloc _
  have HS := Lib.hid (fun b hb => st_sameInt A1 A2 ln1 ln2 cp1 cp2 ch1 ch2 b hb _ (hc1.ext xa) (hc2.ext xa) hl hm)
  clear hf hg hc1 hc2
  by_cases h1 : a1 = a2
  case neg =>
    rw [dec_f h1, Bool.false_and] at hb
    subst hb
    have k := beq_f h1
    clear HS h1
    go_enter Try.func55, Try.ntmps55
    go_wp2
    go_ret
    exact ⟨rfl, xa⟩
  rw [dec_t h1, Bool.true_and] at hb
  subst h1
  by_cases h2 : s1 = s2
  case neg =>
    rw [dec_f h2, Bool.false_and] at hb
    subst hb
    have k := beq_f h2
    clear HS h2
    go_enter Try.func55, Try.ntmps55
    go_wp2
    go_ret
    exact ⟨rfl, xa⟩
  rw [dec_t h2, Bool.true_and] at hb
  subst h2
  by_cases h3 : hd1 = hd2
  case neg =>
    rw [dec_f h3, Bool.false_and] at hb
    subst hb
    clear HS
    rcases hd1 with _ | _ <;> rcases hd2 with _ | _ <;> first | exact absurd rfl h3 | skip
    all_goals
      clear h3
      go_enter Try.func55, Try.ntmps55
      go_wp2
      go_ret
      exact ⟨rfl, xa⟩
  rw [dec_t h3, Bool.true_and] at hb
  subst h3
  by_cases h4 : tg1 = tg2
  case neg =>
    rw [dec_f h4, Bool.false_and] at hb
    subst hb
    have k := bytes_ne h4
    clear HS h4
    go_enter Try.func55, Try.ntmps55
    go_wp2
    go_ret
    exact ⟨rfl, xa⟩
  rw [dec_t h4, Bool.true_and] at hb
  subst h4
  have HS2 := Lib.hid (HS.out _ hb)
  clear HS hb
  go_enter Try.func55, Try.ntmps55
  go_wp2_with (go_at_call 93; refine HS2.out.mono ?_; rintro e w1 ⟨rfl, y1⟩)
  go_ret
  exact ⟨rfl, xa.trans y1⟩

/-- are two rows of snapshots the same -/
def snsEq : List NV → List NV → Bool
  | [], [] => true
  | a :: l, b :: m => nvEq a b && snsEq l m
  | _, _ => false
theorem snsEq_cons (a b : NV) (l m : List NV) : snsEq (a :: l) (b :: m) = (nvEq a b && snsEq l m) := rfl
theorem snsEq_len : ∀ {l m : List NV}, l.length ≠ m.length → snsEq l m = false
  | [], [], h => absurd rfl h
  | [], _ :: _, _ => rfl
  | _ :: _, [], _ => rfl
  | a :: l, b :: m, h => by rw [snsEq_cons, snsEq_len (l := l) (m := m) (by simpa using h), Bool.and_false]
set_option maxRecDepth 100000 in
set_option maxHeartbeats 800000 in
theorem st_EqualFunc (A A' : Option Addr) (n n' c c' : Nat) (l m : List NV) (b : Bool) (hb : snsEq l m = b) (w : World) (h1 : Ts w A n l) (h2 : Ts w A' n' m) (hn : n ≤ 1000000) (hn' : n' ≤ 1000000) (hl1 : ∀ f ∈ l, f.len ≤ 1000000) (hl2 : ∀ f ∈ m, f.len ≤ 1000000) :
    Calls Try.prog 54 #[.slice A n c, .slice A' n' c', .func (.func 55) #[] #[]] w fun e w' => e = .returned (.bool b) ∧ Ext w w' := by
  have hlen1 := h1.len
  have hlen2 := h2.len
  by_cases hnn : n = n'
  case neg =>
    have hf : b = false := by rw [← hb]; exact snsEq_len (by omega)
    subst hf
    have hk := bne_t (show ((n : Nat) : Int) ≠ n' by omega)
    have hk' := beq_f (show ((n : Nat) : Int) ≠ n' by omega)
    clear hb h1 h2 hl1 hl2 hlen1 hlen2
    go_enter Try.func54, Try.ntmps54
    go_wp2
    go_ret
    exact ⟨rfl, Ext.refl w⟩
  subst hnn
  have Hb := Lib.hid hb
  have L1 := Lib.hid hl1
  have L2 := Lib.hid hl2
  clear hb hl1 hl2
  go_enter Try.func54, Try.ntmps54
  go_wp2_with fail
  go_loopw [17] (fun i wr => ∃ j : Nat, i = .int .i64 j ∧ j ≤ n ∧ b = snsEq (l.drop j) (m.drop j) ∧ Ext w wr) (fun i _ => n - (intOf i).toNat)
  case atStart => exact ⟨0, rfl, by omega, Hb.out.symm, Ext.refl w⟩
  case round =>
    obtain ⟨j, rfl, hj, hpre, hx⟩ := hrel
    by_cases hjn : j < n
    · have hjl : j < l.length := by omega
      have hjm : j < m.length := by omega
      obtain ⟨bb, off, rfl, hlt, hc⟩ := (h1.ext hx).at_ hjn
      obtain ⟨bb', off', rfl, hlt', hd⟩ := (h2.ext hx).at_ hjn
      have ok1 : NV.Ok l[j] wr := (h1.ext hx).ok l[j] (List.getElem_mem _)
      have ok2 : NV.Ok m[j] wr := (h2.ext hx).ok m[j] (List.getElem_mem _)
      have le1 := L1.out l[j] (List.getElem_mem _)
      have le2 := L2.out m[j] (List.getElem_mem _)
      rw [List.drop_eq_getElem_cons hjl, List.drop_eq_getElem_cons hjm, snsEq_cons] at hpre
      generalize l[j] = f at *
      generalize m[j] = g at *
      have c0 : wr.cell? ⟨bb, off + j * 5, none⟩ = some (.int .i64 f.id) := hc 0 (by omega)
      have c1 : wr.cell? ⟨bb, off + j * 5 + 1, none⟩ = some (.int .i64 f.set) := hc 1 (by omega)
      have c2 : wr.cell? ⟨bb, off + j * 5 + 2, none⟩ = some (.slice f.A f.len f.cap) := hc 2 (by omega)
      have c3 : wr.cell? ⟨bb, off + j * 5 + 3, none⟩ = some (.bool f.held) := hc 3 (by omega)
      have c4 : wr.cell? ⟨bb, off + j * 5 + 4, none⟩ = some (.string f.tag) := hc 4 (by omega)
      have xa : Ext wr (wr.alloc (.cells #[.int .i64 f.id, .int .i64 f.set, .slice f.A f.len f.cap, .bool f.held, .string f.tag] 33)) := (Ext.refl wr).alloc _
      have d0' : wr.cell? ⟨bb', off' + j * 5, none⟩ = some (.int .i64 g.id) := hd 0 (by omega)
      have d1' : wr.cell? ⟨bb', off' + j * 5 + 1, none⟩ = some (.int .i64 g.set) := hd 1 (by omega)
      have d2' : wr.cell? ⟨bb', off' + j * 5 + 2, none⟩ = some (.slice g.A g.len g.cap) := hd 2 (by omega)
      have d3' : wr.cell? ⟨bb', off' + j * 5 + 3, none⟩ = some (.bool g.held) := hd 3 (by omega)
      have d4' : wr.cell? ⟨bb', off' + j * 5 + 4, none⟩ = some (.string g.tag) := hd 4 (by omega)
      have d0 := xa.cell d0'
      have d1 := xa.cell d1'
      have d2 := xa.cell d2'
      have d3 := xa.cell d3'
      have d4 := xa.cell d4'
      have hj0 : (0 : Int) ≤ j := by omega
      have hj1 : (j : Int) < n := by omega
      have xb := xa.alloc (.cells #[.int .i64 g.id, .int .i64 g.set, .slice g.A g.len g.cap, .bool g.held, .string g.tag] 33)
      have HE := Lib.hid (fun b hb => st_sameSnap f g b hb _ (ok1.ext xb) (ok2.ext xb) le1 le2)
      clear hc hd d0' d1' d2' d3' d4' ok1 ok2
      rcases he : nvEq f g with _ | _
      · rw [he, Bool.false_and] at hpre
        subst hpre
        have HE2 := Lib.hid (HE.out _ he)
        clear HE he Hb
        go_wp2_with (first
          | (refine wpList_named 55 (by rfl) ?_)
          | (go_at_call 55; refine HE2.out.mono ?_; rintro e w1 ⟨rfl, y1⟩))
        go_ret
        exact ⟨rfl, (hx.trans xb).trans y1⟩
      · rw [he, Bool.true_and] at hpre
        have HP := Lib.hid hpre
        have HE2 := Lib.hid (HE.out _ he)
        clear HE he hpre
        go_wp2_with (first
          | (refine wpList_named 55 (by rfl) ?_)
          | (go_at_call 55; refine HE2.out.mono ?_; rintro e w1 ⟨rfl, y1⟩))
        go_roundw
        case rel => exact ⟨j + 1, val_int (by omega), by omega, HP.out, (hx.trans xb).trans y1⟩
        case measure => simp [intOf]; omega
    · obtain rfl : n = j := by omega
      rw [List.drop_of_length_le (by omega), List.drop_of_length_le (by omega)] at hpre
      have HP : Hid (b = true) := Lib.hid hpre
      clear hpre
      go_wp2
      go_ret
      exact ⟨by rw [HP.out] <;> rfl, hx⟩

/-- are two catalogues the same -/
def kSame (a b : KV) : Bool := decide (a.ver = b.ver) && (decide (a.next = b.next) && (decide (a.keep = b.keep) && (decide (a.quota = b.quota) && (decide (a.ses = b.ses) && (decide (a.ops = b.ops) && snsEq a.sns b.sns)))))
/-- a catalogue of not too many things -/
structure KV.Few (s : KV) : Prop where
  n1 : s.n1 ≤ 1000000
  n2 : s.n2 ≤ 1000000
  n3 : s.n3 ≤ 1000000
  ch : ∀ f ∈ s.sns, f.len ≤ 1000000
set_option maxRecDepth 100000 in
set_option maxHeartbeats 3200000 in
theorem st_Same (s t : KV) (b : Bool) (hb : kSame s t = b) (w : World) (hs : s.Ok w) (ht : t.Ok w) (fs : s.Few) (ft : t.Few) :
    Calls Try.prog 20 #[s.val, t.val] w fun e w' => e = .returned (.bool b) ∧ Ext w w' := by
  obtain ⟨s1, s2, s3, s4⟩ := fs
  obtain ⟨g1, g2, g3, g4⟩ := ft
  have S1 := hs.t1
  have S2 := hs.t2
  have S3 := hs.t3
  have T1 := ht.t1
  have T2 := ht.t2
  have T3 := ht.t3
  clear hs ht
  obtain ⟨ver, next, keep, quota, A1, n1, c1, ses, A2, n2, c2, ops, A3, n3, c3, sns⟩ := s
  obtain ⟨ver', next', keep', quota', A1', n1', c1', ses', A2', n2', c2', ops', A3', n3', c3', sns'⟩ := t
  unfold KV.val
  unfold kSame at hb
  dsimp only at hb s1 s2 s3 s4 g1 g2 g3 g4 S1 S2 S3 T1 T2 T3 ⊢
  have xa : Ext w ((w.alloc (.cells #[.int .i64 ver, .int .i64 next, .int .i64 keep, .int .i64 quota, .slice A1 n1 c1, .slice A2 n2 c2, .slice A3 n3 c3] 26)).alloc (.cells #[.int .i64 ver', .int .i64 next', .int .i64 keep', .int .i64 quota', .slice A1' n1' c1', .slice A2' n2' c2', .slice A3' n3' c3'] 26)) := ((Ext.refl w).alloc _).alloc _
  have hB := (Blk.new w 26 [.int .i64 ver, .int .i64 next, .int .i64 keep, .int .i64 quota, .slice A1 n1 c1, .slice A2 n2 c2, .slice A3 n3 c3]).alloc (.cells #[.int .i64 ver', .int .i64 next', .int .i64 keep', .int .i64 quota', .slice A1' n1' c1', .slice A2' n2' c2', .slice A3' n3' c3'] 26)
  have hB' := Blk.new (w.alloc (.cells #[.int .i64 ver, .int .i64 next, .int .i64 keep, .int .i64 quota, .slice A1 n1 c1, .slice A2 n2 c2, .slice A3 n3 c3] 26)) 26 [.int .i64 ver', .int .i64 next', .int .i64 keep', .int .i64 quota', .slice A1' n1' c1', .slice A2' n2' c2', .slice A3' n3' c3']
  rw [show (w.alloc (.cells #[.int .i64 ver, .int .i64 next, .int .i64 keep, .int .i64 quota, .slice A1 n1 c1, .slice A2 n2 c2, .slice A3 n3 c3] 26)).heap.size = w.heap.size + 1 by simp] at hB'
  have H1 := Lib.hid (fun b hb (w' : World) (h : Ext w w') => st_sameSess A1 A1' n1 n1' c1 c1' ses ses' b hb w' (S1.ext h) (T1.ext h) s1 g1)
  have H2 := Lib.hid (fun b hb (w' : World) (h : Ext w w') => st_sameOpen A2 A2' n2 n2' c2 c2' ops ops' b hb w' (S2.ext h) (T2.ext h) s2 g2)
  have H3 := Lib.hid (fun b hb (w' : World) (h : Ext w w') => st_EqualFunc A3 A3' n3 n3' c3 c3' sns sns' b hb w' (S3.ext h) (T3.ext h) s3 g3 s4 g4)
  clear s4 g4 S1 S2 S3 T1 T2 T3
  by_cases k1 : ver = ver'
  case neg =>
    rw [dec_f k1, Bool.false_and] at hb
    subst hb
    have k := beq_f k1
    clear H1 H2 H3 k1 hB hB'
    go_enter Try.func20, Try.ntmps20
    go_wp2
    go_ret
    exact ⟨rfl, xa⟩
  rw [dec_t k1, Bool.true_and] at hb
  subst k1
  by_cases k2 : next = next'
  case neg =>
    rw [dec_f k2, Bool.false_and] at hb
    subst hb
    have k := beq_f k2
    clear H1 H2 H3 k2 hB hB'
    go_enter Try.func20, Try.ntmps20
    go_wp2
    go_ret
    exact ⟨rfl, xa⟩
  rw [dec_t k2, Bool.true_and] at hb
  subst k2
  by_cases k3 : keep = keep'
  case neg =>
    rw [dec_f k3, Bool.false_and] at hb
    subst hb
    have k := beq_f k3
    clear H1 H2 H3 k3 hB hB'
    go_enter Try.func20, Try.ntmps20
    go_wp2
    go_ret
    exact ⟨rfl, xa⟩
  rw [dec_t k3, Bool.true_and] at hb
  subst k3
  by_cases k4 : quota = quota'
  case neg =>
    rw [dec_f k4, Bool.false_and] at hb
    subst hb
    have k := beq_f k4
    clear H1 H2 H3 k4 hB hB'
    go_enter Try.func20, Try.ntmps20
    go_wp2
    go_ret
    exact ⟨rfl, xa⟩
  rw [dec_t k4, Bool.true_and] at hb
  subst k4
  by_cases k5 : ses = ses'
  case neg =>
    rw [dec_f k5, Bool.false_and] at hb
    subst hb
    have M1 := Lib.hid (H1.out false (dec_f k5) _ xa)
    clear H1 H2 H3 k5 hB hB'
    go_enter Try.func20, Try.ntmps20
    go_wp2_with (go_at_call 52; refine M1.out.mono ?_; rintro e w1 ⟨rfl, y1⟩)
    go_ret
    exact ⟨rfl, xa.trans y1⟩
  rw [dec_t k5, Bool.true_and] at hb
  have M1 := Lib.hid (H1.out true (dec_t k5) _ xa)
  by_cases k6 : ops = ops'
  case neg =>
    rw [dec_f k6, Bool.false_and] at hb
    subst hb
    have M2 := Lib.hid (fun w' h => H2.out false (dec_f k6) w' h)
    clear H1 H2 H3 k5 k6
    go_enter Try.func20, Try.ntmps20
    go_wp2_with fail
    refine M1.out.mono ?_
    rintro e w1 ⟨rfl, y1⟩
    have d5 := (hB.ext y1).cell 5
    have e5 := (hB'.ext y1).cell 5
    simp only [List.getElem?_cons_zero, List.getElem?_cons_succ] at d5 e5
    go_wp2_with (go_at_call 53; refine (M2.out _ (xa.trans y1)).mono ?_; rintro e w2 ⟨rfl, y2⟩)
    go_ret
    exact ⟨rfl, (xa.trans y1).trans y2⟩
  rw [dec_t k6, Bool.true_and] at hb
  have M2 := Lib.hid (fun w' h => H2.out true (dec_t k6) w' h)
  have M3 := Lib.hid (fun w' h => H3.out b hb w' h)
  clear H1 H2 H3 k5 k6 hb
  go_enter Try.func20, Try.ntmps20
  go_wp2_with fail
  refine M1.out.mono ?_
  rintro e w1 ⟨rfl, y1⟩
  have d5 := (hB.ext y1).cell 5
  have e5 := (hB'.ext y1).cell 5
  simp only [List.getElem?_cons_zero, List.getElem?_cons_succ] at d5 e5
  go_wp2_with fail
  refine (M2.out _ (xa.trans y1)).mono ?_
  rintro e w2 ⟨rfl, y2⟩
  have d6 := ((hB.ext y1).ext y2).cell 6
  have e6 := ((hB'.ext y1).ext y2).cell 6
  simp only [List.getElem?_cons_zero, List.getElem?_cons_succ] at d6 e6
  go_wp2_with fail
  refine (M3.out _ ((xa.trans y1).trans y2)).mono ?_
  rintro e w3 ⟨rfl, y3⟩
  go_wp2
  go_ret
  exact ⟨rfl, ((xa.trans y1).trans y2).trans y3⟩
end Go.Proofs.Ytiildgoaiookhaa
