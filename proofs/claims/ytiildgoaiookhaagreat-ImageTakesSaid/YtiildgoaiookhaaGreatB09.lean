/- Words and walks that the last text of this claim stands on: TlvW, TlvR, TlvM, TlvN, TlvF, TlvP, TlvS, TlvL. No condition. -/
import Derived.Test.YtiildgoaiookhaaGreatB07
import Derived.Test.YtiildgoaiookhaaGreatB03
import Derived.Test.YtiildgoaiookhaaGreatB01
/- The walks of layer 3: single fields. -/
namespace Go.Proofs.YtiildgoaiookhaaGreat
open Go.RowKit

/-- may a field be, wherever it stands -/
def aloneB (f : FV) : Bool := if f.num < 1 then false else if 1000 < f.num then false else if f.wire = 0 then (f.len : Int) == 0 else if f.wire = 2 then (f.n : Int) == 0 else false
/-- may f stand right behind a -/
def risesB (a f : FV) : Bool := if f.num = a.num then (f.wire == 2 && a.wire == 2) else decide (a.num < f.num)

set_option maxRecDepth 100000 in
set_option maxHeartbeats 400000 in
theorem tlv_alone (f : FV) (w : World) : Calls Tryz.prog 76 #[f.val] w fun e w' => e = .returned (.bool (aloneB f)) ∧ Ext w w' := by
  obtain ⟨num, wire, n, A, len, cap, b⟩ := f
  unfold FV.val aloneB
  dsimp only
  by_cases h1 : num < 1
  · rw [if_pos h1]
    go_enter Tryz.func76, Tryz.ntmps76
    go_wp2
    go_ret
    exact ⟨rfl, (Ext.refl w).alloc _⟩
  · rw [if_neg h1]
    by_cases h2 : 1000 < num
    · rw [if_pos h2]
      go_enter Tryz.func76, Tryz.ntmps76
      go_wp2
      go_ret
      exact ⟨rfl, (Ext.refl w).alloc _⟩
    · rw [if_neg h2]
      by_cases h3 : wire = 0
      · rw [if_pos h3]
        subst h3
        go_enter Tryz.func76, Tryz.ntmps76
        go_wp2
        go_ret
        exact ⟨rfl, (Ext.refl w).alloc _⟩
      · rw [if_neg h3]
        by_cases h4 : wire = 2
        · rw [if_pos h4]
          subst h4
          go_enter Tryz.func76, Tryz.ntmps76
          go_wp2
          go_ret
          exact ⟨rfl, (Ext.refl w).alloc _⟩
        · rw [if_neg h4]
          have g3 := beq_f h3
          have g4 := beq_f h4
          clear h3 h4
          go_enter Tryz.func76, Tryz.ntmps76
          go_wp2
          go_ret
          exact ⟨rfl, (Ext.refl w).alloc _⟩

set_option maxRecDepth 100000 in
set_option maxHeartbeats 400000 in
theorem tlv_rises (a f : FV) (w : World) : Calls Tryz.prog 37 #[a.val, f.val] w fun e w' => e = .returned (.bool (risesB a f)) ∧ Ext w w' := by
  obtain ⟨num, wire, n, A, len, cap, b⟩ := f
  obtain ⟨num', wire', n', A', len', cap', b'⟩ := a
  unfold FV.val risesB
  dsimp only
  by_cases h1 : num = num'
  · rw [if_pos h1]
    subst h1
    rcases h2 : (wire == 2) with _ | _
    · go_enter Tryz.func37, Tryz.ntmps37
      go_wp2
      go_ret
      exact ⟨rfl, ((Ext.refl w).alloc _).alloc _⟩
    · go_enter Tryz.func37, Tryz.ntmps37
      go_wp2
      go_ret
      exact ⟨rfl, ((Ext.refl w).alloc _).alloc _⟩
  · rw [if_neg h1]
    have g1 := beq_f h1
    clear h1
    go_enter Tryz.func37, Tryz.ntmps37
    go_wp2
    go_ret
    exact ⟨rfl, ((Ext.refl w).alloc _).alloc _⟩

/-- the bytes of a field -/
def fput (num wire n : Nat) (b : List UInt8) : List UInt8 := vput (8 * num + wire) ++ (if wire = 0 then vput n else vput b.length ++ b)

set_option maxRecDepth 100000 in
set_option maxHeartbeats 400000 in
theorem tlv_put (num wire n : Nat) (A : Option Addr) (len cap : Nat) (b : List UInt8) (w : World) (hm : TagMay num wire) (hn : U64 n) (hb : Bs w A len b) (hl : len ≤ 100000) :
    Calls Tryz.prog 70 #[.agg #[.int .i64 num, .int .i64 wire, .int .u64 n, .slice A len cap]] w fun e w' => ∃ v, e = .returned v ∧ w'.ownsRow w.heap.size 5 1 v (fput num wire n b).length ((fput num wire n b).map bv) ∧ Ext w w' := by
  have hlen := hb.len
  have hU : (vput (8 * num + wire)).length ≤ 2 := by rw [tag_len hm]; split <;> omega
  have HP := Lib.hid (fun w => tag_Put_ok num wire hm w)
  obtain ⟨_, _, h3⟩ := hm
  unfold fput
  generalize vput (8 * num + wire) = U at *
  rcases h3 with rfl | rfl
  · rw [if_pos rfl]
    have HQ := Lib.hid (fun w => varint_Put n hn w)
    have hQ : (vput n).length ≤ 10 := by rw [vput_len]; exact hn.size
    generalize vput n = V at *
    clear hlen hb
    go_enter Tryz.func70, Tryz.ntmps70
    go_wp2_with fail
    refine (HP.out _).mono ?_
    rintro e w1 ⟨v1, rfl, hown1, x1⟩
    have c0 : w1.cell? ⟨w.heap.size, 0, none⟩ = some (.int .i64 num) := x1.cell (by simp)
    have c1 : w1.cell? ⟨w.heap.size, 1, none⟩ = some (.int .i64 0) := x1.cell (by simp)
    have c2 : w1.cell? ⟨w.heap.size, 2, none⟩ = some (.int .u64 n) := x1.cell (by simp)
    have c3 : w1.cell? ⟨w.heap.size, 3, none⟩ = some (.slice A len cap) := x1.cell (by simp)
    go_wp2_with fail
    refine (HQ.out _).mono ?_
    rintro e w2 ⟨v2, rfl, hown2, x2⟩
    obtain ⟨A2, k2, rfl, _⟩ := own_form hown2
    have b2 := Bs.of_own hown2
    have hown1' := own_ext hown1 x2
    have hz := x1.size
    have hz2 := x2.size
    clear c0 c1 c2 c3
    simp at hz
    go_wp2_with (at_builtin; refine wpList_app bytesT (by omega) _ rfl rfl rfl hown1' rfl b2 (bvs_one _) (by unfold maxLen; omega) (by omega) (by simp; omega) ?_; intro v3 w3 hown3 hg3 hat3)
    go_ret
    refine ⟨v3, rfl, ?_, ?_⟩
    · exact own_to hown3 (by simp) (by simp) (by simp)
    · exact Below.app (((Ext.refl w).alloc _).trans (x1.trans x2)) hg3 (by omega) hown1' (by simp)
  · rw [if_neg (by omega)]
    have hu : U64 len := by unfold U64; omega
    have HQ := Lib.hid (fun w => varint_Put len hu w)
    have hQ : (vput len).length ≤ 10 := by rw [vput_len]; exact hu.size
    rw [hlen]
    generalize vput len = V at *
    go_enter Tryz.func70, Tryz.ntmps70
    go_wp2_with fail
    refine (HP.out _).mono ?_
    rintro e w1 ⟨v1, rfl, hown1, x1⟩
    have c0 : w1.cell? ⟨w.heap.size, 0, none⟩ = some (.int .i64 num) := x1.cell (by simp)
    have c1 : w1.cell? ⟨w.heap.size, 1, none⟩ = some (.int .i64 2) := x1.cell (by simp)
    have c2 : w1.cell? ⟨w.heap.size, 2, none⟩ = some (.int .u64 n) := x1.cell (by simp)
    have c3 : w1.cell? ⟨w.heap.size, 3, none⟩ = some (.slice A len cap) := x1.cell (by simp)
    go_wp2_with fail
    refine (HQ.out _).mono ?_
    rintro e w2 ⟨v2, rfl, hown2, x2⟩
    obtain ⟨A2, k2, rfl, _⟩ := own_form hown2
    have b2 := Bs.of_own hown2
    have hown1' := own_ext hown1 x2
    have hz := x1.size
    have hz2 := x2.size
    have x02 : Ext w w2 := ((Ext.refl w).alloc _).trans (x1.trans x2)
    have c3' := x2.cell c3
    have hlt3 := World.block_lt_of_cell? _ _ c3
    clear c0 c1 c2
    simp at hz
    go_wp2_with (first | (at_builtin; refine wpList_app bytesT (by omega) _ rfl rfl rfl hown1' rfl b2 (bvs_one _) (by unfold maxLen; omega) (by omega) (by simp; omega) ?_; intro v3 w3 hown3 hg3 hat3; have x3 : Below (w.heap.size + 1) w2 w3 := Below.app (Below.refl _ _) hg3 (by omega) hown1' (by simp); have c3'' := (Below.cell x3 (p := ⟨w.heap.size, 3, none⟩) (by simp)).trans c3'; have x03 : Ext w w3 := Below.app x02 hg3 (by omega) hown1' (by simp); have hb3 := hb.ext x03; have hz3 := x3.size; clear hg3 hat3) | (at_builtin; refine wpList_app bytesT (by omega) _ rfl rfl rfl hown3 rfl hb3 (bvs_one _) (by unfold maxLen; omega) (by omega) (by simp; omega) ?_; intro v4 w4 hown4 hg4 hat4))
    go_ret
    exact ⟨v4, rfl, own_to hown4 (by simp) (by simp [hlen]; omega) (by simp), Below.app x03 hg4 (by omega) hown3 (by simp)⟩
end Go.Proofs.YtiildgoaiookhaaGreat

/- The walks of layer 3's reference: single fields. -/
namespace Go.Proofs.YtiildgoaiookhaaGreat
open Go.RowKit

set_option maxRecDepth 100000 in
set_option maxHeartbeats 1000000 in
theorem ref03_one (num wire n : Nat) (A : Option Addr) (len cap : Nat) (b : List UInt8) (w : World) (hm : TagMay num wire) (hn : U64 n) (hb : Bs w A len b) (hl : len ≤ 100000) :
    Calls Tryz.prog 88 #[.agg #[.int .i64 num, .int .i64 wire, .int .u64 n, .slice A len cap]] w fun e w' => ∃ v, e = .returned v ∧ w'.ownsRow w.heap.size 5 1 v (fput num wire n b).length ((fput num wire n b).map bv) ∧ Ext w w' := by
  have hlen := hb.len
  have hU : (vput (8 * num + wire)).length ≤ 2 := by rw [tag_len hm]; split <;> omega
  have HP := Lib.hid (fun w => ref02_Put_ok num wire hm w)
  obtain ⟨_, _, h3⟩ := hm
  unfold fput
  generalize vput (8 * num + wire) = U at *
  rcases h3 with rfl | rfl
  · rw [if_pos rfl]
    have HQ := Lib.hid (fun w => ref01_Put n hn w)
    have hQ : (vput n).length ≤ 10 := by rw [vput_len]; exact hn.size
    generalize vput n = V at *
    clear hlen hb
    go_enter Tryz.func88, Tryz.ntmps88
    go_wp2_with fail
    refine (HP.out _).mono ?_
    rintro e w1 ⟨v1, rfl, hown1, x1⟩
    have c0 : w1.cell? ⟨w.heap.size, 0, none⟩ = some (.int .i64 num) := x1.cell (by simp)
    have c1 : w1.cell? ⟨w.heap.size, 1, none⟩ = some (.int .i64 0) := x1.cell (by simp)
    have c2 : w1.cell? ⟨w.heap.size, 2, none⟩ = some (.int .u64 n) := x1.cell (by simp)
    go_wp2_with fail
    refine (HQ.out _).mono ?_
    rintro e w2 ⟨v2, rfl, hown2, x2⟩
    obtain ⟨A2, k2, rfl, _⟩ := own_form hown2
    have b2 := Bs.of_own hown2
    have hown1' := own_ext hown1 x2
    have hz := x1.size
    have hz2 := x2.size
    clear c0 c1 c2
    simp at hz
    go_wp2_with (at_builtin; refine wpList_app bytesT (by omega) _ rfl rfl rfl hown1' rfl b2 (bvs_one _) (by unfold maxLen; omega) (by omega) (by simp; omega) ?_; intro v3 w3 hown3 hg3 hat3)
    go_ret
    refine ⟨v3, rfl, ?_, ?_⟩
    · exact own_to hown3 (by simp) (by simp) (by simp)
    · exact Below.app (((Ext.refl w).alloc _).trans (x1.trans x2)) hg3 (by omega) hown1' (by simp)
  · rw [if_neg (by omega)]
    have hu : U64 len := by unfold U64; omega
    have HQ := Lib.hid (fun w => ref01_Put len hu w)
    have hQ : (vput len).length ≤ 10 := by rw [vput_len]; exact hu.size
    rw [hlen]
    generalize vput len = V at *
    go_enter Tryz.func88, Tryz.ntmps88
    go_wp2_with fail
    refine (HP.out _).mono ?_
    rintro e w1 ⟨v1, rfl, hown1, x1⟩
    have c0 : w1.cell? ⟨w.heap.size, 0, none⟩ = some (.int .i64 num) := x1.cell (by simp)
    have c1 : w1.cell? ⟨w.heap.size, 1, none⟩ = some (.int .i64 2) := x1.cell (by simp)
    have c2 : w1.cell? ⟨w.heap.size, 2, none⟩ = some (.int .u64 n) := x1.cell (by simp)
    have c3 : w1.cell? ⟨w.heap.size, 3, none⟩ = some (.slice A len cap) := x1.cell (by simp)
    have hz := x1.size
    simp at hz
    have hz' : w.heap.size < w1.heap.size := by omega
    have x01 : Ext w w1 := ((Ext.refl w).alloc _).trans x1
    have hwl : IntKind.u64.wrap (len : Int) = len := hu.wrap
    go_wp2_with fail
    go_region_held3 (fun w' => w'.cell? ⟨w.heap.size, 3, none⟩ = some (.slice A len cap))
      (first
        | go_keep
        | (exact x2.cell (by assumption))
        | (exact (Below.cell x3 (p := ⟨w.heap.size, 3, none⟩) (by simp)).trans (by assumption))
        | (exact (Below.cell x4 (p := ⟨w.heap.size, 3, none⟩) (by simp)).trans (by assumption)))
      (first
        | (go_at_call 85; refine (HQ.out _).mono ?_; rintro e w2 ⟨v2, rfl, hown2, x2⟩; obtain ⟨A2, k2, rfl, _⟩ := own_form hown2; have b2 := Bs.of_own hown2; have hown1' := own_ext (World.ownsRow.drew hown1) x2; have hz2 : w1.heap.size ≤ w2.heap.size := x2.size)
        | (refine step_app bytesT (by omega) _ rfl rfl rfl hown1' rfl b2 (bvs_one _) (by unfold maxLen; omega) (by omega) (by simp; omega) ?_; intro v3 w3 hown3 hg3 hat3; have x3 : Below (w.heap.size + 1) w2 w3 := Below.app (Below.refl _ _) hg3 (by omega) hown1' (by simp); have x03 : Ext w w3 := Below.app ((x01.drew).trans x2) hg3 (by omega) hown1' (by simp); have hb3 := hb.ext x03; have hz3 := x3.size; clear hg3 hat3)
        | (refine step_app bytesT (by omega) _ rfl rfl rfl hown3 rfl hb3 (bvs_one _) (by unfold maxLen; omega) (by omega) (by simp; omega) ?_; intro v4 w4 hown4 hg4 hat4; have x4 : Below (w.heap.size + 1) w3 w4 := Below.app (Below.refl _ _) hg4 (by omega) hown3 (by simp)))
    go_wp2
    go_ret
    exact ⟨v4, rfl, own_to hown4 (by simp) (by simp [hlen]; omega) (by simp), Below.app x03 hg4 (by omega) hown3 (by simp)⟩
end Go.Proofs.YtiildgoaiookhaaGreat

/- The walks of May of layer 3. -/
namespace Go.Proofs.YtiildgoaiookhaaGreat
open Go.RowKit

/-- how many bytes a field has -/
def fsize (f : FV) : Nat := (fput f.num.toNat f.wire.toNat f.n f.b).length
/-- may the rest of a row be, behind a field, with so many bytes so far: an error's number -/
def mayScan : Option FV → Nat → List FV → Nat
  | _, size, [] => if 16384 < size then 4 else 0
  | prev, size, f :: r =>
    if aloneB f = false then 1 else if (match prev with | none => false | some a => !risesB a f) = true then 5
    else if 16384 < f.len then 4 else mayScan (some f) (size + fsize f) r
/-- does it fall behind what stands ahead -/
def fallsB : Option FV → FV → Bool
  | none, _ => false
  | some a, f => !risesB a f
theorem mayScan_cons (p : Option FV) (size : Nat) (f : FV) (r : List FV) : mayScan p size (f :: r) = if aloneB f = false then 1 else if fallsB p f = true then 5 else if 16384 < f.len then 4 else mayScan (some f) (size + fsize f) r := by
  cases p <;> rfl
theorem mayScan_nil (p : Option FV) (size : Nat) : mayScan p size [] = if 16384 < size then 4 else 0 := by cases p <;> rfl
/-- may a row be -/
def fmay (l : List FV) : Nat := mayScan none 0 l

theorem alone_tag {f : FV} (h : aloneB f = true) : ∃ num wire : Nat, f.num = num ∧ f.wire = wire ∧ TagMay num wire := by
  unfold aloneB at h
  by_cases h1 : f.num < 1
  · rw [if_pos h1] at h; cases h
  · rw [if_neg h1] at h
    by_cases h2 : 1000 < f.num
    · rw [if_pos h2] at h; cases h
    · rw [if_neg h2] at h
      by_cases h3 : f.wire = 0
      · exact ⟨f.num.toNat, 0, by omega, h3, by omega, by omega, .inl rfl⟩
      · rw [if_neg h3] at h
        by_cases h4 : f.wire = 2
        · exact ⟨f.num.toNat, 2, by omega, h4, by omega, by omega, .inr rfl⟩
        · rw [if_neg h4] at h; cases h

theorem fput_len_le {num wire n : Nat} {b : List UInt8} (hm : TagMay num wire) (hn : U64 n) (hb : b.length ≤ 16384) : (fput num wire n b).length ≤ 16396 := by
  unfold fput
  rw [List.length_append]
  have h1 : (vput (8 * num + wire)).length ≤ 2 := by rw [tag_len hm]; split <;> omega
  have h2 : (vput n).length ≤ 10 := by rw [vput_len]; exact hn.size
  have h3 : (vput b.length).length ≤ 10 := by rw [vput_len]; exact U64.size (by unfold U64; omega)
  split
  · omega
  · rw [List.length_append]; omega

/-- tlv.put of a field that may be alone -/
theorem tlv_put_f (f : FV) (w : World) (ha : aloneB f = true) (hk : f.Ok w) (hl : f.len ≤ 16384) :
    Calls Tryz.prog 70 #[f.val] w fun e w' => ∃ v, e = .returned v ∧ w'.ownsRow w.heap.size 5 1 v (fsize f) ((fput f.num.toNat f.wire.toNat f.n f.b).map bv) ∧ Ext w w' := by
  obtain ⟨num, wire, h1, h2, hm⟩ := alone_tag ha
  have := tlv_put num wire f.n f.A f.len f.cap f.b w hm hk.u hk.bs (by omega)
  unfold FV.val fsize
  rw [h1, h2]
  exact this
theorem ref03_one_f (f : FV) (w : World) (ha : aloneB f = true) (hk : f.Ok w) (hl : f.len ≤ 16384) :
    Calls Tryz.prog 88 #[f.val] w fun e w' => ∃ v, e = .returned v ∧ w'.ownsRow w.heap.size 5 1 v (fsize f) ((fput f.num.toNat f.wire.toNat f.n f.b).map bv) ∧ Ext w w' := by
  obtain ⟨num, wire, h1, h2, hm⟩ := alone_tag ha
  have := ref03_one num wire f.n f.A f.len f.cap f.b w hm hk.u hk.bs (by omega)
  unfold FV.val fsize
  rw [h1, h2]
  exact this
theorem fsize_le (f : FV) {w : World} (ha : aloneB f = true) (hk : f.Ok w) (hl : f.len ≤ 16384) : fsize f ≤ 16396 := by
  obtain ⟨num, wire, h1, h2, hm⟩ := alone_tag ha
  unfold fsize
  rw [h1, h2]
  exact fput_len_le hm hk.u (by rw [hk.bs.len]; omega)

set_option maxRecDepth 100000 in
set_option maxHeartbeats 1600000 in
theorem tlv_May (A : Option Addr) (n c : Nat) (l : List FV) (w : World) (hf : Fs w A n l) (hn : n ≤ 20000) :
    Calls Tryz.prog 41 #[.slice A n c] w fun e w' => e = .returned (.int .i64 (fmay l)) ∧ Ext w w' := by
  have hlen := hf.len
  go_enter Tryz.func41, Tryz.ntmps41
  go_wp2
  go_loopw [3, 8] (fun s i wr => ∃ (j size : Nat), i = .int .i64 j ∧ s = .int .i64 size ∧ j ≤ n ∧ size ≤ j * 16396 ∧ fmay l = mayScan (if j = 0 then none else l[j - 1]?) size (l.drop j) ∧ Ext w wr) (fun _ i _ => n - (intOf i).toNat)
  case atStart => exact ⟨0, 0, rfl, rfl, by omega, by omega, rfl, Ext.refl w⟩
  case round =>
    obtain ⟨j, size, rfl, rfl, hj, hsz, hm, hx⟩ := hrel
    by_cases hjn : j < n
    · have hd : l.drop j = l[j] :: l.drop (j + 1) := List.drop_eq_getElem_cons (by omega)
      rw [hd, mayScan_cons] at hm
      obtain ⟨b, off, rfl, d0, d1, d2, d3⟩ := (hf.ext hx).at_ hjn
      have hok := (hf.ext hx).ok l[j] (List.getElem_mem _)
      generalize hfj : l[j] = f at *
      have x1 : Ext wr (wr.alloc (.cells #[.int .i64 f.num, .int .i64 f.wire, .int .u64 f.n, .slice f.A f.len f.cap] 54)) := (Ext.refl wr).alloc _
      have Hm := Lib.hid hm; clear hm
      have Hfj := Lib.hid hfj; clear hfj
      have Hd := Lib.hid hd; clear hd
      have al := tlv_alone f (wr.alloc (.cells #[.int .i64 f.num, .int .i64 f.wire, .int .u64 f.n, .slice f.A f.len f.cap] 54))
      rcases ha : aloneB f with _ | _
      · rw [ha] at al
        have HA := Lib.hid al; clear al
        have Ha := Lib.hid ha; clear ha
        go_wp2_with fail
        refine HA.out.mono ?_
        rintro e w1 ⟨rfl, y1⟩
        go_wp2
        go_ret
        exact ⟨by rw [Hm.out, if_pos Ha.out]; rfl, hx.trans (x1.trans y1)⟩
      · rw [ha] at al
        have HA := Lib.hid al; clear al
        have Ha := Lib.hid ha; clear ha
        go_wp2_with fail
        refine HA.out.mono ?_
        rintro e w1 ⟨rfl, y1⟩
        have e0 : w1.cell? ⟨wr.heap.size, 0, none⟩ = some (.int .i64 f.num) := y1.cell (by simp)
        have e1 : w1.cell? ⟨wr.heap.size, 1, none⟩ = some (.int .i64 f.wire) := y1.cell (by simp)
        have e2 : w1.cell? ⟨wr.heap.size, 2, none⟩ = some (.int .u64 f.n) := y1.cell (by simp)
        have e3 : w1.cell? ⟨wr.heap.size, 3, none⟩ = some (.slice f.A f.len f.cap) := y1.cell (by simp)
        have hx1 : Ext w w1 := hx.trans (x1.trans y1)
        have hk1 : f.Ok w1 := hok.ext (x1.trans y1)
        clear d0 d1 d2 d3 x1 y1 hok
        rcases Nat.eq_zero_or_pos j with rfl | hj0
        · by_cases hbig : 16384 < f.len
          · have Hm2 : Hid (fmay l = 4) := Lib.hid (by rw [Hm.out, if_neg (by rw [Ha.out]; simp), if_neg (by simp [fallsB]), if_pos hbig])
            go_wp2
            go_quiet (fail)
            go_wp2
            go_ret
            exact ⟨by rw [Hm2.out]; rfl, hx1.drewN _⟩
          · have HPut := Lib.hid (fun w hk => tlv_put_f f w Ha.out hk (by omega))
            have hfs := fsize_le f Ha.out hk1 (by omega)
            go_wp2
            go_quiet (fail)
            go_wp2_with fail
            refine (HPut.out _ (hk1.ext ((Ext.refl w1).drewN _))).mono ?_
            rintro e w2 ⟨v2, rfl, hown2, y2⟩
            obtain ⟨A2, k2, rfl, _⟩ := own_form hown2
            clear hown2
            go_wp2
            go_roundw
            case rel => exact ⟨0 + 1, size + fsize f, val_int (by omega), val_int (by omega), by omega, by rw [Nat.succ_mul]; omega, by rw [Hm.out, if_neg (by rw [Ha.out]; simp), if_neg (by simp [fallsB]), if_neg (by omega)]; simp [Hfj.out, List.getElem?_eq_getElem (show 0 < l.length by omega)], (hx1.drewN _).trans y2⟩
            case measure => simp [intOf]; omega
        · obtain ⟨i, rfl⟩ : ∃ i, j = i + 1 := ⟨j - 1, by omega⟩
          obtain ⟨b', off', hA', p0, p1, p2, p3⟩ := (hf.ext hx1).at_ (show i < n by omega)
          injection hA' with hA'
          injection hA' with hb' ho'
          subst hb' ho'
          have hprev : (if i + 1 = 0 then none else l[i + 1 - 1]?) = some (l[i]'(by omega)) := by rw [if_neg (by omega)]; exact List.getElem?_eq_getElem (by omega)
          have hm2 := Hm.out
          rw [if_neg (by rw [Ha.out]; simp), hprev] at hm2
          have Hm2 := Lib.hid hm2
          clear hm2 hprev Hm
          generalize hgp : l[i]'(by omega) = g at *
          have Hgp := Lib.hid hgp; clear hgp
          have hii : (i : Int) < n := by omega
          have hi0 : (0 : Int) ≤ i := by omega
          have hri := tlv_rises g f
          have hw1 : IntKind.i64.wrap (i : Int) = i := IntWalk.i64_in _ (by omega)
          have hw2 : IntKind.i64.wrap ((i : Int) + 1) = (i : Int) + 1 := IntWalk.i64_in _ (by omega)
          rcases hrv : risesB g f with _ | _
          · rw [hrv] at hri
            have HR := Lib.hid hri; clear hri
            have Hm3 : Hid (fmay l = 5) := Lib.hid (by have h2 := Hm2.out; rw [if_pos (show fallsB (some g) f = true by simp [fallsB, hrv])] at h2; exact h2)
            clear hrv
            go_wp2_with fail
            go_region_held3 (fun w' => w'.cell? ⟨b, off + i * 4, none⟩ = some (.int .i64 g.num) ∧ w'.cell? ⟨b, off + i * 4 + 1, none⟩ = some (.int .i64 g.wire) ∧ w'.cell? ⟨b, off + i * 4 + 2, none⟩ = some (.int .u64 g.n) ∧ w'.cell? ⟨b, off + i * 4 + 3, none⟩ = some (.slice g.A g.len g.cap) ∧
                w'.cell? ⟨wr.heap.size, 0, none⟩ = some (.int .i64 f.num) ∧ w'.cell? ⟨wr.heap.size, 1, none⟩ = some (.int .i64 f.wire) ∧ w'.cell? ⟨wr.heap.size, 2, none⟩ = some (.int .u64 f.n) ∧ w'.cell? ⟨wr.heap.size, 3, none⟩ = some (.slice f.A f.len f.cap))
              (first
                | go_keep
                | (exact ⟨y2.cell p0, y2.cell p1, y2.cell p2, y2.cell p3, y2.cell e0, y2.cell e1, y2.cell e2, y2.cell e3⟩))
              (first
                | (go_at_call 37; refine (HR.out _).mono ?_; rintro e w2 ⟨rfl, y2⟩))
            go_wp2
            go_ret
            exact ⟨by rw [Hm3.out]; rfl, hx1.drew.trans y2⟩
          · rw [hrv] at hri
            have HR := Lib.hid hri; clear hri
            have hm3 := Hm2.out
            rw [if_neg (show ¬ fallsB (some g) f = true by simp [fallsB, hrv])] at hm3
            clear hrv
            by_cases hbig : 16384 < f.len
            · rw [if_pos hbig] at hm3
              have Hm3 := Lib.hid hm3; clear hm3
              go_wp2_with fail
              go_region_held3 (fun w' => w'.cell? ⟨b, off + i * 4, none⟩ = some (.int .i64 g.num) ∧ w'.cell? ⟨b, off + i * 4 + 1, none⟩ = some (.int .i64 g.wire) ∧ w'.cell? ⟨b, off + i * 4 + 2, none⟩ = some (.int .u64 g.n) ∧ w'.cell? ⟨b, off + i * 4 + 3, none⟩ = some (.slice g.A g.len g.cap) ∧
                  w'.cell? ⟨wr.heap.size, 0, none⟩ = some (.int .i64 f.num) ∧ w'.cell? ⟨wr.heap.size, 1, none⟩ = some (.int .i64 f.wire) ∧ w'.cell? ⟨wr.heap.size, 2, none⟩ = some (.int .u64 f.n) ∧ w'.cell? ⟨wr.heap.size, 3, none⟩ = some (.slice f.A f.len f.cap))
                (first
                  | go_keep
                  | (exact ⟨y2.cell p0, y2.cell p1, y2.cell p2, y2.cell p3, y2.cell e0, y2.cell e1, y2.cell e2, y2.cell e3⟩))
                (first
                  | (go_at_call 37; refine (HR.out _).mono ?_; rintro e w2 ⟨rfl, y2⟩))
              go_wp2
              go_ret
              exact ⟨by rw [Hm3.out]; rfl, hx1.drew.trans y2⟩
            · rw [if_neg hbig] at hm3
              have Hm3 := Lib.hid hm3; clear hm3
              have HPut := Lib.hid (fun w hk => tlv_put_f f w Ha.out hk (by omega))
              have hfs := fsize_le f Ha.out hk1 (by omega)
              go_wp2_with fail
              go_region_held3 (fun w' => w'.cell? ⟨b, off + i * 4, none⟩ = some (.int .i64 g.num) ∧ w'.cell? ⟨b, off + i * 4 + 1, none⟩ = some (.int .i64 g.wire) ∧ w'.cell? ⟨b, off + i * 4 + 2, none⟩ = some (.int .u64 g.n) ∧ w'.cell? ⟨b, off + i * 4 + 3, none⟩ = some (.slice g.A g.len g.cap) ∧
                  w'.cell? ⟨wr.heap.size, 0, none⟩ = some (.int .i64 f.num) ∧ w'.cell? ⟨wr.heap.size, 1, none⟩ = some (.int .i64 f.wire) ∧ w'.cell? ⟨wr.heap.size, 2, none⟩ = some (.int .u64 f.n) ∧ w'.cell? ⟨wr.heap.size, 3, none⟩ = some (.slice f.A f.len f.cap))
                (first
                  | go_keep
                  | (exact ⟨y2.cell p0, y2.cell p1, y2.cell p2, y2.cell p3, y2.cell e0, y2.cell e1, y2.cell e2, y2.cell e3⟩))
                (first
                  | (go_at_call 37; refine (HR.out _).mono ?_; rintro e w2 ⟨rfl, y2⟩))
              have q0 := y2.cell e0
              have q1 := y2.cell e1
              have q2 := y2.cell e2
              have q3 := y2.cell e3
              have hx2 := hx1.drew.trans y2
              have hk2 := hk1.ext ((Ext.refl w1).drew.trans y2)
              go_wp2_with fail
              refine (HPut.out _ hk2).mono ?_
              rintro e w3 ⟨v3, rfl, hown3, y3⟩
              obtain ⟨A3, k3, rfl, _⟩ := own_form hown3
              clear hown3
              go_wp2
              go_roundw
              case rel => exact ⟨i + 1 + 1, size + fsize f, val_int (by omega), val_int (by omega), by omega, by rw [Nat.succ_mul]; omega, by rw [Hm3.out]; simp [Hfj.out, List.getElem?_eq_getElem (show i + 1 < l.length by omega)], hx2.trans y3⟩
              case measure => simp [intOf]; omega
    · obtain rfl : j = n := by omega
      rw [List.drop_of_length_le (by omega), mayScan_nil] at hm
      by_cases hs : 16384 < size
      · rw [if_pos hs] at hm
        have Hm := Lib.hid hm; clear hm
        go_wp2
        go_ret
        exact ⟨by rw [Hm.out]; rfl, hx⟩
      · rw [if_neg hs] at hm
        have Hm := Lib.hid hm; clear hm
        go_wp2
        go_ret
        exact ⟨by rw [Hm.out]; rfl, hx⟩
end Go.Proofs.YtiildgoaiookhaaGreat

/- The walk of coracleref03.May. -/
namespace Go.Proofs.YtiildgoaiookhaaGreat
open Go.RowKit

set_option maxRecDepth 100000 in
set_option maxHeartbeats 800000 in
theorem ref03_falls (a f : FV) (w : World) : Calls Tryz.prog 81 #[a.val, f.val] w fun e w' => e = .returned (.bool (!risesB a f)) ∧ Ext w w' := by
  obtain ⟨num, wire, n, A, len, cap, b⟩ := f
  obtain ⟨num', wire', n', A', len', cap', b'⟩ := a
  unfold FV.val risesB
  dsimp only
  by_cases h1 : num = num'
  · rw [if_pos h1]
    subst h1
    rcases h2 : (wire' == 2) with _ | _
    · have h2' : (wire' != 2) = true := by simpa using h2
      rw [Bool.and_false]
      go_enter Tryz.func81, Tryz.ntmps81
      go_wp2
      go_ret
      exact ⟨rfl, ((Ext.refl w).alloc _).alloc _⟩
    · have h2' : (wire' != 2) = false := by simpa using h2
      rcases h3 : (wire == 2) with _ | _
      · have h3' : (wire != 2) = true := by simpa using h3
        go_enter Tryz.func81, Tryz.ntmps81
        go_wp2
        go_ret
        exact ⟨rfl, ((Ext.refl w).alloc _).alloc _⟩
      · have h3' : (wire != 2) = false := by simpa using h3
        go_enter Tryz.func81, Tryz.ntmps81
        go_wp2
        go_ret
        exact ⟨rfl, ((Ext.refl w).alloc _).alloc _⟩
  · rw [if_neg h1]
    by_cases h2 : num < num'
    · have h2' : decide (num' < num) = false := dec_f (by omega)
      rw [h2']
      go_enter Tryz.func81, Tryz.ntmps81
      go_wp2
      go_ret
      exact ⟨rfl, ((Ext.refl w).alloc _).alloc _⟩
    · have h2' : decide (num' < num) = true := dec_t (by omega)
      have g1 := beq_f h1
      rw [h2']
      clear h1
      go_enter Tryz.func81, Tryz.ntmps81
      go_wp2
      go_ret
      exact ⟨rfl, ((Ext.refl w).alloc _).alloc _⟩

/-- how many bytes a row has -/
def fsum (l : List FV) : Nat := (l.map fsize).sum
theorem fsum_snoc (l : List FV) (j : Nat) (h : j < l.length) : fsum (l.take (j + 1)) = fsum (l.take j) + fsize l[j] := by
  unfold fsum; rw [List.take_succ_eq_append_getElem h, List.map_append, List.sum_append]; simp
theorem alone_false {f : FV} (h : aloneB f = false) : terr f.num f.wire = 1 ∨ (terr f.num f.wire = 0 ∧ f.wire = 0 ∧ 0 < f.len) ∨ (terr f.num f.wire = 0 ∧ f.wire = 2 ∧ f.n ≠ 0) := by
  unfold aloneB at h
  unfold terr
  by_cases h1 : f.num < 1
  · exact .inl (if_neg (by omega))
  · rw [if_neg h1] at h
    by_cases h2 : 1000 < f.num
    · exact .inl (if_neg (by omega))
    · rw [if_neg h2] at h
      by_cases h3 : f.wire = 0
      · rw [if_pos h3] at h
        have : (f.len : Int) ≠ 0 := by simpa using h
        exact .inr (.inl ⟨if_pos (by omega), h3, by omega⟩)
      · rw [if_neg h3] at h
        by_cases h4 : f.wire = 2
        · rw [if_pos h4] at h
          have : (f.n : Int) ≠ 0 := by simpa using h
          exact .inr (.inr ⟨if_pos (by omega), h4, by omega⟩)
        · exact .inl (if_neg (by omega))
theorem alone_true {f : FV} (h : aloneB f = true) : terr f.num f.wire = 0 ∧ (f.wire = 0 ∧ f.len = 0 ∨ f.wire = 2 ∧ f.n = 0) := by
  unfold aloneB at h
  unfold terr
  by_cases h1 : f.num < 1
  · rw [if_pos h1] at h; cases h
  · rw [if_neg h1] at h
    by_cases h2 : 1000 < f.num
    · rw [if_pos h2] at h; cases h
    · rw [if_neg h2] at h
      by_cases h3 : f.wire = 0
      · rw [if_pos h3] at h
        have : (f.len : Int) = 0 := by simpa using h
        exact ⟨if_pos (by omega), .inl ⟨h3, by omega⟩⟩
      · rw [if_neg h3] at h
        by_cases h4 : f.wire = 2
        · rw [if_pos h4] at h
          have : (f.n : Int) = 0 := by simpa using h
          exact ⟨if_pos (by omega), .inr ⟨h4, by omega⟩⟩
        · rw [if_neg h4] at h; cases h

set_option maxRecDepth 100000 in
set_option maxHeartbeats 1600000 in
theorem ref03_May (A : Option Addr) (n c : Nat) (l : List FV) (w : World) (hf : Fs w A n l) (hn : n ≤ 20000) :
    Calls Tryz.prog 82 #[.slice A n c] w fun e w' => e = .returned (.int .i64 (fmay l)) ∧ Ext w w' := by
  have hlen := hf.len
  go_enter Tryz.func82, Tryz.ntmps82
  go_wp2
  go_loopw [3] (fun i wr => ∃ (j : Nat), i = .int .i64 j ∧ j ≤ n ∧ fmay l = mayScan (if j = 0 then none else l[j - 1]?) (fsum (l.take j)) (l.drop j) ∧ (∀ k, k < j → ∀ h : k < l.length, aloneB l[k] = true ∧ l[k].len ≤ 16384) ∧ Ext w wr) (fun i _ => n - (intOf i).toNat)
  case atStart => exact ⟨0, rfl, by omega, rfl, fun k hk => absurd hk (by omega), Ext.refl w⟩
  case round =>
    obtain ⟨j, rfl, hj, hm, hall, hx⟩ := hrel
    have Hall := Lib.hid hall; clear hall
    by_cases hjn : j < n
    · have hd : l.drop j = l[j] :: l.drop (j + 1) := List.drop_eq_getElem_cons (by omega)
      rw [hd, mayScan_cons] at hm
      obtain ⟨b, off, rfl, d0, d1, d2, d3⟩ := (hf.ext hx).at_ hjn
      generalize hfj : l[j] = f at *
      obtain ⟨num, wire, fn, fA, flen, fcap, fb⟩ := f
      dsimp only at d0 d1 d2 d3 hm
      have x1 : Ext wr (wr.alloc (.cells #[.int .i64 num, .int .i64 wire, .int .u64 fn, .slice fA flen fcap] 54)) := (Ext.refl wr).alloc _
      have Hm := Lib.hid hm; clear hm
      have Hfj := Lib.hid hfj; clear hfj
      have Hd := Lib.hid hd; clear hd
      have ht := fun w => ref02_Put num wire w
      rcases ha : aloneB ⟨num, wire, fn, fA, flen, fcap, fb⟩ with _ | _
      · have Ha := Lib.hid ha
        have haf := alone_false ha
        dsimp only at haf
        rcases haf with h | ⟨h, hw, hl⟩ | ⟨h, hw, hl⟩
        · rw [h] at ht
          have HT := Lib.hid ht; clear ht ha h
          go_wp2_with fail
          refine (HT.out _).mono ?_
          rintro e w1 ⟨A1, n1, c1, rfl, _, y1⟩
          have e0 : w1.cell? ⟨wr.heap.size, 0, none⟩ = some (.int .i64 num) := y1.cell (by simp)
          have e1 : w1.cell? ⟨wr.heap.size, 1, none⟩ = some (.int .i64 wire) := y1.cell (by simp)
          have e2 : w1.cell? ⟨wr.heap.size, 2, none⟩ = some (.int .u64 fn) := y1.cell (by simp)
          have e3 : w1.cell? ⟨wr.heap.size, 3, none⟩ = some (.slice fA flen fcap) := y1.cell (by simp)
          have hx1 : Ext w w1 := hx.trans (x1.trans y1)
          clear x1 y1
          go_wp2
          go_ret
          exact ⟨by rw [Hm.out, if_pos Ha.out]; rfl, hx1⟩
        · rw [h] at ht
          subst hw
          have HT := Lib.hid ht; clear ht ha h
          go_wp2_with fail
          refine (HT.out _).mono ?_
          rintro e w1 ⟨A1, n1, c1, rfl, _, y1⟩
          have e0 : w1.cell? ⟨wr.heap.size, 0, none⟩ = some (.int .i64 num) := y1.cell (by simp)
          have e1 : w1.cell? ⟨wr.heap.size, 1, none⟩ = some (.int .i64 0) := y1.cell (by simp)
          have e2 : w1.cell? ⟨wr.heap.size, 2, none⟩ = some (.int .u64 fn) := y1.cell (by simp)
          have e3 : w1.cell? ⟨wr.heap.size, 3, none⟩ = some (.slice fA flen fcap) := y1.cell (by simp)
          have hx1 : Ext w w1 := hx.trans (x1.trans y1)
          clear x1 y1
          go_wp2
          go_ret
          exact ⟨by rw [Hm.out, if_pos Ha.out]; rfl, hx1⟩
        · rw [h] at ht
          have hl' : ((fn : Int) != 0) = true := bne_t (by omega)
          have g0 : (wire == 0) = false := beq_f (by omega)
          have g2 := beq_t hw
          have HT := Lib.hid ht; clear ht ha h hl hw
          go_wp2_with fail
          refine (HT.out _).mono ?_
          rintro e w1 ⟨A1, n1, c1, rfl, _, y1⟩
          have e0 : w1.cell? ⟨wr.heap.size, 0, none⟩ = some (.int .i64 num) := y1.cell (by simp)
          have e1 : w1.cell? ⟨wr.heap.size, 1, none⟩ = some (.int .i64 wire) := y1.cell (by simp)
          have e2 : w1.cell? ⟨wr.heap.size, 2, none⟩ = some (.int .u64 fn) := y1.cell (by simp)
          have e3 : w1.cell? ⟨wr.heap.size, 3, none⟩ = some (.slice fA flen fcap) := y1.cell (by simp)
          have hx1 : Ext w w1 := hx.trans (x1.trans y1)
          clear x1 y1
          go_wp2
          go_ret
          exact ⟨by rw [Hm.out, if_pos Ha.out]; rfl, hx1⟩
      · have Ha := Lib.hid ha
        have hat := alone_true ha
        dsimp only at hat
        obtain ⟨h, hcs⟩ := hat
        rw [h] at ht
        have HT := Lib.hid ht; clear ht ha h
        rcases hcs with ⟨hw, hl⟩ | ⟨hw, hl⟩
        · subst hw hl
          go_wp2_with fail
          refine (HT.out _).mono ?_
          rintro e w1 ⟨A1, n1, c1, rfl, _, y1⟩
          have e0 : w1.cell? ⟨wr.heap.size, 0, none⟩ = some (.int .i64 num) := y1.cell (by simp)
          have e1 : w1.cell? ⟨wr.heap.size, 1, none⟩ = some (.int .i64 0) := y1.cell (by simp)
          have e2 : w1.cell? ⟨wr.heap.size, 2, none⟩ = some (.int .u64 fn) := y1.cell (by simp)
          have e3 : w1.cell? ⟨wr.heap.size, 3, none⟩ = some (.slice fA 0 fcap) := y1.cell (by simp)
          have hx1 : Ext w w1 := hx.trans (x1.trans y1)
          clear x1 y1
          go_wp2
          rcases Nat.eq_zero_or_pos j with rfl | hj0
          · by_cases hbig : 16384 < 0
            · exfalso; omega
            · go_quiet (fail)
              go_wp2
              go_roundw
              case rel => exact ⟨0 + 1, val_int (by omega), by omega, by rw [Hm.out, if_neg (by rw [Ha.out]; simp), if_neg (by simp [fallsB]), if_neg hbig, fsum_snoc l 0 (by omega)]; simp [Hfj.out, List.getElem?_eq_getElem (show 0 < l.length by omega)], fun k hk => (by
                rcases Nat.lt_succ_iff_lt_or_eq.1 hk with hk | rfl
                · exact absurd hk (by omega)
                · intro h; rw [Hfj.out]; exact ⟨Ha.out, by dsimp only; omega⟩), hx1.drewN _⟩
              case measure => simp [intOf]; omega
          · obtain ⟨i, rfl⟩ : ∃ i, j = i + 1 := ⟨j - 1, by omega⟩
            obtain ⟨b', off', hA', p0, p1, p2, p3⟩ := (hf.ext hx1).at_ (show i < n by omega)
            injection hA' with hA'
            injection hA' with hb' ho'
            subst hb' ho'
            have hprev : (if i + 1 = 0 then none else l[i + 1 - 1]?) = some (l[i]'(by omega)) := by rw [if_neg (by omega)]; exact List.getElem?_eq_getElem (by omega)
            have hm2 := Hm.out
            rw [if_neg (by rw [Ha.out]; simp), hprev] at hm2
            clear hprev
            generalize hgp : l[i]'(by omega) = g at *
            have Hgp := Lib.hid hgp; clear hgp
            have hii : (i : Int) < n := by omega
            have hi0 : (0 : Int) ≤ i := by omega
            have hri := ref03_falls g ⟨num, 0, fn, fA, 0, fcap, fb⟩
            have hw1 : IntKind.i64.wrap (i : Int) = i := IntWalk.i64_in _ (by omega)
            have hw2 : IntKind.i64.wrap ((i : Int) + 1) = (i : Int) + 1 := IntWalk.i64_in _ (by omega)
            rcases hrv : risesB g ⟨num, 0, fn, fA, 0, fcap, fb⟩ with _ | _
            · rw [hrv] at hri
              have HR := Lib.hid hri; clear hri
              have Hm3 : Hid (fmay l = 5) := Lib.hid (by rw [if_pos (show fallsB (some g) ⟨num, 0, fn, fA, 0, fcap, fb⟩ = true by simp [fallsB, hrv])] at hm2; exact hm2)
              clear hrv hm2
              go_region_held3 (fun w' => w'.cell? ⟨b, off + i * 4, none⟩ = some (.int .i64 g.num) ∧ w'.cell? ⟨b, off + i * 4 + 1, none⟩ = some (.int .i64 g.wire) ∧ w'.cell? ⟨b, off + i * 4 + 2, none⟩ = some (.int .u64 g.n) ∧ w'.cell? ⟨b, off + i * 4 + 3, none⟩ = some (.slice g.A g.len g.cap) ∧
                  w'.cell? ⟨wr.heap.size, 0, none⟩ = some (.int .i64 num) ∧ w'.cell? ⟨wr.heap.size, 1, none⟩ = some (.int .i64 0) ∧ w'.cell? ⟨wr.heap.size, 2, none⟩ = some (.int .u64 fn) ∧ w'.cell? ⟨wr.heap.size, 3, none⟩ = some (.slice fA 0 fcap))
                (first
                  | go_keep
                  | (exact ⟨y2.cell p0, y2.cell p1, y2.cell p2, y2.cell p3, y2.cell e0, y2.cell e1, y2.cell e2, y2.cell e3⟩))
                (first
                  | (go_at_call 81; refine (HR.out _).mono ?_; rintro e w2 ⟨rfl, y2⟩))
              go_wp2
              go_ret
              exact ⟨by rw [Hm3.out]; rfl, hx1.drew.trans y2⟩
            · rw [hrv] at hri
              have HR := Lib.hid hri; clear hri
              rw [if_neg (show ¬ fallsB (some g) ⟨num, 0, fn, fA, 0, fcap, fb⟩ = true by simp [fallsB, hrv])] at hm2
              clear hrv
              by_cases hbig : 16384 < 0
              · exfalso; omega
              · rw [if_neg hbig] at hm2
                have Hm3 := Lib.hid hm2; clear hm2
                go_region_held3 (fun w' => w'.cell? ⟨b, off + i * 4, none⟩ = some (.int .i64 g.num) ∧ w'.cell? ⟨b, off + i * 4 + 1, none⟩ = some (.int .i64 g.wire) ∧ w'.cell? ⟨b, off + i * 4 + 2, none⟩ = some (.int .u64 g.n) ∧ w'.cell? ⟨b, off + i * 4 + 3, none⟩ = some (.slice g.A g.len g.cap) ∧
                    w'.cell? ⟨wr.heap.size, 0, none⟩ = some (.int .i64 num) ∧ w'.cell? ⟨wr.heap.size, 1, none⟩ = some (.int .i64 0) ∧ w'.cell? ⟨wr.heap.size, 2, none⟩ = some (.int .u64 fn) ∧ w'.cell? ⟨wr.heap.size, 3, none⟩ = some (.slice fA 0 fcap))
                  (first
                    | go_keep
                    | (exact ⟨y2.cell p0, y2.cell p1, y2.cell p2, y2.cell p3, y2.cell e0, y2.cell e1, y2.cell e2, y2.cell e3⟩))
                  (first
                    | (go_at_call 81; refine (HR.out _).mono ?_; rintro e w2 ⟨rfl, y2⟩))
                have q3 := y2.cell e3
                go_wp2
                go_roundw
                case rel => exact ⟨i + 1 + 1, val_int (by omega), by omega, by rw [Hm3.out, fsum_snoc l (i + 1) (by omega)]; simp [Hfj.out, List.getElem?_eq_getElem (show i + 1 < l.length by omega)], fun k hk => (by
                  rcases Nat.lt_succ_iff_lt_or_eq.1 hk with hk | rfl
                  · exact Hall.out k hk
                  · intro h; rw [Hfj.out]; exact ⟨Ha.out, by dsimp only; omega⟩), hx1.drew.trans y2⟩
                case measure => simp [intOf]; omega
        · subst hw hl
          go_wp2_with fail
          refine (HT.out _).mono ?_
          rintro e w1 ⟨A1, n1, c1, rfl, _, y1⟩
          have e0 : w1.cell? ⟨wr.heap.size, 0, none⟩ = some (.int .i64 num) := y1.cell (by simp)
          have e1 : w1.cell? ⟨wr.heap.size, 1, none⟩ = some (.int .i64 2) := y1.cell (by simp)
          have e2 : w1.cell? ⟨wr.heap.size, 2, none⟩ = some (.int .u64 0) := y1.cell (by simp)
          have e3 : w1.cell? ⟨wr.heap.size, 3, none⟩ = some (.slice fA flen fcap) := y1.cell (by simp)
          have hx1 : Ext w w1 := hx.trans (x1.trans y1)
          clear x1 y1
          go_wp2
          rcases Nat.eq_zero_or_pos j with rfl | hj0
          · by_cases hbig : 16384 < flen
            · have Hm2 : Hid (fmay l = 4) := Lib.hid (by rw [Hm.out, if_neg (by rw [Ha.out]; simp), if_neg (by simp [fallsB]), if_pos hbig])
              go_quiet (fail)
              go_wp2
              go_ret
              exact ⟨by rw [Hm2.out]; rfl, hx1.drewN _⟩
            · go_quiet (fail)
              go_wp2
              go_roundw
              case rel => exact ⟨0 + 1, val_int (by omega), by omega, by rw [Hm.out, if_neg (by rw [Ha.out]; simp), if_neg (by simp [fallsB]), if_neg hbig, fsum_snoc l 0 (by omega)]; simp [Hfj.out, List.getElem?_eq_getElem (show 0 < l.length by omega)], fun k hk => (by
                rcases Nat.lt_succ_iff_lt_or_eq.1 hk with hk | rfl
                · exact absurd hk (by omega)
                · intro h; rw [Hfj.out]; exact ⟨Ha.out, by dsimp only; omega⟩), hx1.drewN _⟩
              case measure => simp [intOf]; omega
          · obtain ⟨i, rfl⟩ : ∃ i, j = i + 1 := ⟨j - 1, by omega⟩
            obtain ⟨b', off', hA', p0, p1, p2, p3⟩ := (hf.ext hx1).at_ (show i < n by omega)
            injection hA' with hA'
            injection hA' with hb' ho'
            subst hb' ho'
            have hprev : (if i + 1 = 0 then none else l[i + 1 - 1]?) = some (l[i]'(by omega)) := by rw [if_neg (by omega)]; exact List.getElem?_eq_getElem (by omega)
            have hm2 := Hm.out
            rw [if_neg (by rw [Ha.out]; simp), hprev] at hm2
            clear hprev
            generalize hgp : l[i]'(by omega) = g at *
            have Hgp := Lib.hid hgp; clear hgp
            have hii : (i : Int) < n := by omega
            have hi0 : (0 : Int) ≤ i := by omega
            have hri := ref03_falls g ⟨num, 2, 0, fA, flen, fcap, fb⟩
            have hw1 : IntKind.i64.wrap (i : Int) = i := IntWalk.i64_in _ (by omega)
            have hw2 : IntKind.i64.wrap ((i : Int) + 1) = (i : Int) + 1 := IntWalk.i64_in _ (by omega)
            rcases hrv : risesB g ⟨num, 2, 0, fA, flen, fcap, fb⟩ with _ | _
            · rw [hrv] at hri
              have HR := Lib.hid hri; clear hri
              have Hm3 : Hid (fmay l = 5) := Lib.hid (by rw [if_pos (show fallsB (some g) ⟨num, 2, 0, fA, flen, fcap, fb⟩ = true by simp [fallsB, hrv])] at hm2; exact hm2)
              clear hrv hm2
              go_region_held3 (fun w' => w'.cell? ⟨b, off + i * 4, none⟩ = some (.int .i64 g.num) ∧ w'.cell? ⟨b, off + i * 4 + 1, none⟩ = some (.int .i64 g.wire) ∧ w'.cell? ⟨b, off + i * 4 + 2, none⟩ = some (.int .u64 g.n) ∧ w'.cell? ⟨b, off + i * 4 + 3, none⟩ = some (.slice g.A g.len g.cap) ∧
                  w'.cell? ⟨wr.heap.size, 0, none⟩ = some (.int .i64 num) ∧ w'.cell? ⟨wr.heap.size, 1, none⟩ = some (.int .i64 2) ∧ w'.cell? ⟨wr.heap.size, 2, none⟩ = some (.int .u64 0) ∧ w'.cell? ⟨wr.heap.size, 3, none⟩ = some (.slice fA flen fcap))
                (first
                  | go_keep
                  | (exact ⟨y2.cell p0, y2.cell p1, y2.cell p2, y2.cell p3, y2.cell e0, y2.cell e1, y2.cell e2, y2.cell e3⟩))
                (first
                  | (go_at_call 81; refine (HR.out _).mono ?_; rintro e w2 ⟨rfl, y2⟩))
              go_wp2
              go_ret
              exact ⟨by rw [Hm3.out]; rfl, hx1.drew.trans y2⟩
            · rw [hrv] at hri
              have HR := Lib.hid hri; clear hri
              rw [if_neg (show ¬ fallsB (some g) ⟨num, 2, 0, fA, flen, fcap, fb⟩ = true by simp [fallsB, hrv])] at hm2
              clear hrv
              by_cases hbig : 16384 < flen
              · rw [if_pos hbig] at hm2
                have Hm3 := Lib.hid hm2; clear hm2
                go_region_held3 (fun w' => w'.cell? ⟨b, off + i * 4, none⟩ = some (.int .i64 g.num) ∧ w'.cell? ⟨b, off + i * 4 + 1, none⟩ = some (.int .i64 g.wire) ∧ w'.cell? ⟨b, off + i * 4 + 2, none⟩ = some (.int .u64 g.n) ∧ w'.cell? ⟨b, off + i * 4 + 3, none⟩ = some (.slice g.A g.len g.cap) ∧
                    w'.cell? ⟨wr.heap.size, 0, none⟩ = some (.int .i64 num) ∧ w'.cell? ⟨wr.heap.size, 1, none⟩ = some (.int .i64 2) ∧ w'.cell? ⟨wr.heap.size, 2, none⟩ = some (.int .u64 0) ∧ w'.cell? ⟨wr.heap.size, 3, none⟩ = some (.slice fA flen fcap))
                  (first
                    | go_keep
                    | (exact ⟨y2.cell p0, y2.cell p1, y2.cell p2, y2.cell p3, y2.cell e0, y2.cell e1, y2.cell e2, y2.cell e3⟩))
                  (first
                    | (go_at_call 81; refine (HR.out _).mono ?_; rintro e w2 ⟨rfl, y2⟩))
                go_wp2
                go_ret
                exact ⟨by rw [Hm3.out]; rfl, hx1.drew.trans y2⟩
              · rw [if_neg hbig] at hm2
                have Hm3 := Lib.hid hm2; clear hm2
                go_region_held3 (fun w' => w'.cell? ⟨b, off + i * 4, none⟩ = some (.int .i64 g.num) ∧ w'.cell? ⟨b, off + i * 4 + 1, none⟩ = some (.int .i64 g.wire) ∧ w'.cell? ⟨b, off + i * 4 + 2, none⟩ = some (.int .u64 g.n) ∧ w'.cell? ⟨b, off + i * 4 + 3, none⟩ = some (.slice g.A g.len g.cap) ∧
                    w'.cell? ⟨wr.heap.size, 0, none⟩ = some (.int .i64 num) ∧ w'.cell? ⟨wr.heap.size, 1, none⟩ = some (.int .i64 2) ∧ w'.cell? ⟨wr.heap.size, 2, none⟩ = some (.int .u64 0) ∧ w'.cell? ⟨wr.heap.size, 3, none⟩ = some (.slice fA flen fcap))
                  (first
                    | go_keep
                    | (exact ⟨y2.cell p0, y2.cell p1, y2.cell p2, y2.cell p3, y2.cell e0, y2.cell e1, y2.cell e2, y2.cell e3⟩))
                  (first
                    | (go_at_call 81; refine (HR.out _).mono ?_; rintro e w2 ⟨rfl, y2⟩))
                have q3 := y2.cell e3
                go_wp2
                go_roundw
                case rel => exact ⟨i + 1 + 1, val_int (by omega), by omega, by rw [Hm3.out, fsum_snoc l (i + 1) (by omega)]; simp [Hfj.out, List.getElem?_eq_getElem (show i + 1 < l.length by omega)], fun k hk => (by
                  rcases Nat.lt_succ_iff_lt_or_eq.1 hk with hk | rfl
                  · exact Hall.out k hk
                  · intro h; rw [Hfj.out]; exact ⟨Ha.out, by dsimp only; omega⟩), hx1.drew.trans y2⟩
                case measure => simp [intOf]; omega
    · obtain rfl : j = n := by omega
      rw [List.drop_of_length_le (by omega), mayScan_nil, List.take_of_length_le (by omega)] at hm
      have Hm := Lib.hid hm; clear hm
      obtain ⟨wo, rfl⟩ : ∃ wo : World, wo = wr := ⟨_, rfl⟩
      have Hx := Lib.hid hx; clear hx
      go_wp2
      go_loopw [7, 8] (fun s i wr => ∃ k : Nat, i = .int .i64 k ∧ s = .int .i64 (fsum (l.take k)) ∧ k ≤ j ∧ fsum (l.take k) ≤ k * 16396 ∧ Ext w wr) (fun _ i _ => j - (intOf i).toNat)
      case atStart => exact ⟨0, rfl, rfl, by omega, by simp [fsum], Hx.out⟩
      case round =>
        obtain ⟨k, rfl, rfl, hk, hsz, hxr⟩ := hrel
        by_cases hkn : k < j
        · obtain ⟨b, off, rfl, d0, d1, d2, d3⟩ := (hf.ext hxr).at_ hkn
          have hok := (hf.ext hxr).ok l[k] (List.getElem_mem _)
          have hal := Hall.out k hkn (by omega)
          have hsn := fsum_snoc l k (by omega)
          generalize l[k] = f at *
          have hfl := fsize_le f hal.1 hok hal.2
          have H1 := Lib.hid (ref03_one_f f wr hal.1 hok hal.2)
          clear hal
          generalize fsum (l.take k) = S at *
          have Hsn := Lib.hid hsn; clear hsn
          go_wp2_with fail
          refine H1.out.mono ?_
          rintro e w2 ⟨v2, rfl, hown2, y2⟩
          obtain ⟨A2, k2, rfl, _⟩ := own_form hown2
          clear hown2
          go_wp2
          go_roundw
          case rel => exact ⟨k + 1, val_int (by omega), val_int (by rw [Hsn.out]; omega), by omega, by rw [Hsn.out, Nat.succ_mul]; omega, hxr.trans y2⟩
          case measure => simp [intOf]; omega
        · obtain rfl : k = j := by omega
          have ht : l.take k = l := List.take_of_length_le (by omega)
          rw [ht] at hsz ⊢
          clear ht
          generalize hS : fsum l = S at *
          by_cases hbig : 16384 < S
          · have Hm2 : Hid (fmay l = 4) := Lib.hid (by rw [Hm.out, if_pos hbig])
            clear hS
            go_wp2
            go_ret
            exact ⟨by rw [Hm2.out]; rfl, hxr⟩
          · have Hm2 : Hid (fmay l = 0) := Lib.hid (by rw [Hm.out, if_neg hbig])
            clear hS
            go_wp2
            go_ret
            exact ⟨by rw [Hm2.out]; rfl, hxr⟩
end Go.Proofs.YtiildgoaiookhaaGreat

/- The walk of few of layer 3's laws. -/
namespace Go.Proofs.YtiildgoaiookhaaGreat
open Go.RowKit

theorem fieldsT : SliceT Tryz.prog 30 54 4 48 := .mk' Tryz.underlying30 (z := .agg #[.int .i64 0, .int .i64 0, .int .u64 0, .slice none 0 0]) (by kernel_rfl) rfl

/-- a field with at most k bytes -/
def cutF (k : Nat) (f : FV) : FV := if k < f.len then { f with len := k, b := f.b.take k } else f
theorem cutF_ok {k : Nat} {f : FV} {w : World} (h : f.Ok w) : (cutF k f).Ok w := by
  unfold cutF
  split
  · exact ⟨h.bs.upto (hi := k) (by omega), by have := h.le; dsimp only; omega, h.cap, h.u⟩
  · exact h
/-- at most 60 fields, of 300 bytes each, but the first, of 17000 -/
def fewAt (i : Nat) (f : FV) : FV := if i = 0 then cutF 17000 f else cutF 300 f
def fewL (l : List FV) : List FV := (l.take 60).mapIdx fewAt
theorem fewL_len (l : List FV) : (fewL l).length = min 60 l.length := by simp [fewL]
theorem fewL_snoc (l : List FV) (j : Nat) (h : j < l.length) (h60 : j < 60) : (fewL l).take (j + 1) = (fewL l).take j ++ [fewAt j l[j]] := by
  have hl : j < (fewL l).length := by rw [fewL_len]; omega
  rw [List.take_succ_eq_append_getElem hl]
  congr 2
  simp [fewL]

theorem rd_new4 (w : World) (a b c d : Value) (t : TypeId) : Rd (w.alloc (.cells #[a, b, c, d] t)) (some ⟨w.heap.size, 0, none⟩) 1 4 [a, b, c, d] := Rd.block w #[a, b, c, d] t 1 rfl
theorem rd_at4 (w : World) (a b c d : Value) (t : TypeId) (k : Nat) (hk : k = w.heap.size) : Rd (w.alloc (.cells #[a, b, c, d] t)) (some ⟨k, 0, none⟩) 1 4 [a, b, c, d] := hk ▸ rd_new4 w a b c d t
theorem fcells_one (num wire : Int) (n : Nat) (A : Option Addr) (len cap : Nat) : ∀ u ∈ [Value.int .i64 num, .int .i64 wire, .int .u64 n, .slice A len cap], u.oneCell' = true := by
  intro u hu
  simp only [List.mem_cons, List.not_mem_nil, or_false] at hu
  rcases hu with rfl | rfl | rfl | rfl <;> rfl

end Go.Proofs.YtiildgoaiookhaaGreat

/- The walk of tlv.Put. -/
namespace Go.Proofs.YtiildgoaiookhaaGreat
open Go.RowKit

theorem mayScan_ok : ∀ (p : Option FV) (size : Nat) (l : List FV), mayScan p size l = 0 → (∀ f ∈ l, aloneB f = true ∧ f.len ≤ 16384) ∧ size + fsum l ≤ 16384
  | p, size, [], h => by
    rw [mayScan_nil] at h
    refine ⟨by simp, ?_⟩
    by_cases hs : 16384 < size
    · rw [if_pos hs] at h; cases h
    · simp [fsum]; omega
  | p, size, f :: r, h => by
    rw [mayScan_cons] at h
    by_cases h1 : aloneB f = false
    · rw [if_pos h1] at h; cases h
    · rw [if_neg h1] at h
      by_cases h2 : fallsB p f = true
      · rw [if_pos h2] at h; cases h
      · rw [if_neg h2] at h
        by_cases h3 : 16384 < f.len
        · rw [if_pos h3] at h; cases h
        · rw [if_neg h3] at h
          obtain ⟨g1, g2⟩ := mayScan_ok (some f) _ r h
          refine ⟨?_, ?_⟩
          · intro x hx
            rcases List.mem_cons.1 hx with rfl | hx
            · exact ⟨by simpa using h1, by omega⟩
            · exact g1 x hx
          · simp only [fsum, List.map_cons, List.sum_cons] at g2 ⊢; omega
theorem fmay_ok {l : List FV} (h : fmay l = 0) : (∀ f ∈ l, aloneB f = true ∧ f.len ≤ 16384) ∧ fsum l ≤ 16384 := by
  have := mayScan_ok none 0 l h
  exact ⟨this.1, by omega⟩

/-- the bytes of a field that may be; of a row -/
def fbytes (f : FV) : List UInt8 := fput f.num.toNat f.wire.toNat f.n f.b
def rput (l : List FV) : List UInt8 := (l.map fbytes).flatten
theorem rput_len (l : List FV) : (rput l).length = fsum l := by
  simp only [rput, List.length_flatten, List.map_map, fsum]; rfl
theorem rput_snoc (l : List FV) (j : Nat) (h : j < l.length) : rput (l.take (j + 1)) = rput (l.take j) ++ fbytes l[j] := by
  unfold rput; rw [List.take_succ_eq_append_getElem h, List.map_append, List.flatten_append]; simp
theorem fsum_take (l : List FV) (j : Nat) : fsum (l.take j) ≤ fsum l := by
  have : fsum l = fsum (l.take j) + fsum (l.drop j) := by
    unfold fsum; rw [← List.sum_append, ← List.map_append, List.take_append_drop]
  omega

set_option maxRecDepth 100000 in
set_option maxHeartbeats 800000 in
theorem tlv_Put_no (A : Option Addr) (n c : Nat) (l : List FV) (w : World) (hf : Fs w A n l) (hn : n ≤ 20000) (hno : fmay l ≠ 0) :
    Calls Tryz.prog 32 #[.slice A n c] w fun e w' => e = .returned (.tuple #[.slice none 0 0, .int .i64 (fmay l)]) ∧ Ext w w' := by
  have hb := bne_t (show ((fmay l : Nat) : Int) ≠ 0 by omega)
  have HM := Lib.hid (tlv_May A n c l w hf hn)
  generalize fmay l = E at *
  clear hno hf
  go_enter Tryz.func32, Tryz.ntmps32
  go_wp2_with fail
  refine HM.out.mono ?_
  rintro e w1 ⟨rfl, x1⟩
  go_wp2
  go_ret2
  exact ⟨rfl, x1⟩

set_option maxRecDepth 100000 in
set_option maxHeartbeats 800000 in
theorem tlv_Put_ok (A : Option Addr) (n c : Nat) (l : List FV) (w : World) (hf : Fs w A n l) (hn : n ≤ 20000) (hno : fmay l = 0) :
    Calls Tryz.prog 32 #[.slice A n c] w fun e w' => ∃ v, e = .returned (.tuple #[v, .int .i64 0]) ∧ w'.ownsRow w.heap.size 5 1 v (rput l).length ((rput l).map bv) ∧ Ext w w' := by
  have hlen := hf.len
  obtain ⟨hall, hsum⟩ := fmay_ok hno
  have hM := tlv_May A n c l w hf hn
  rw [hno] at hM
  have HM := Lib.hid hM; clear hM hno
  have Hall := Lib.hid hall; clear hall
  go_enter Tryz.func32, Tryz.ntmps32
  go_wp2_with fail
  refine HM.out.mono ?_
  rintro e w1 ⟨rfl, x1⟩
  have h0 := World.ownsRow_nil w1 w.heap.size 5 1
  go_wp2
  go_loopw [5, 15] (fun v i wr => ∃ j : Nat, i = .int .i64 j ∧ j ≤ n ∧ wr.ownsRow w.heap.size 5 1 v (rput (l.take j)).length ((rput (l.take j)).map bv) ∧ Ext w wr) (fun _ i _ => n - (intOf i).toNat)
  case atStart => exact ⟨0, rfl, by omega, by simpa [rput] using h0, x1⟩
  case round =>
    obtain ⟨j, rfl, hj, hown, hx⟩ := hrel
    by_cases hjn : j < n
    · obtain ⟨b, off, rfl, d0, d1, d2, d3⟩ := (hf.ext hx).at_ hjn
      have hok := (hf.ext hx).ok l[j] (List.getElem_mem _)
      have hal := Hall.out l[j] (List.getElem_mem _)
      have hsn := rput_snoc l j (by omega)
      have hle : (rput (l.take j)).length ≤ 16384 := by rw [rput_len]; have := fsum_take l j; omega
      have hfs := fsize_le l[j] hal.1 hok hal.2
      have x2 := (Ext.refl wr).alloc (.cells #[.int .i64 l[j].num, .int .i64 l[j].wire, .int .u64 l[j].n, .slice l[j].A l[j].len l[j].cap] 54)
      have HP := Lib.hid (tlv_put_f l[j] _ hal.1 (hok.ext x2) hal.2)
      have hszw := hx.size
      change Hid (Calls _ _ _ _ fun e w' => ∃ v, e = .returned v ∧ w'.ownsRow _ 5 1 v (fsize l[j]) ((fbytes l[j]).map bv) ∧ _) at HP
      have hbl : (fbytes l[j]).length = fsize l[j] := rfl
      generalize l[j] = f at *
      generalize rput (l.take j) = R at *
      have Hsn := Lib.hid hsn; clear hsn
      have Hbl := Lib.hid hbl; clear hbl
      clear hal hok
      go_wp2_with fail
      refine HP.out.mono ?_
      rintro e w2 ⟨v2, rfl, hown2, y2⟩
      obtain ⟨A2, k2, rfl, _⟩ := own_form hown2
      have b2 := Rd.of_own hown2
      have y02 := x2.trans y2
      have hown' := own_ext hown y02
      have hz2 := y02.size
      go_wp2_with (at_builtin; refine wpList_app bytesT (by omega) _ rfl rfl rfl hown' rfl b2 (bvs_one _) (by unfold maxLen; omega) (by omega) (by omega) ?_; intro v3 w3 hown3 hg3 hat3)
      go_roundw
      case rel => exact ⟨j + 1, val_int (by omega), by omega, own_to hown3 (Nat.le_refl _) (by rw [Hsn.out, List.length_append, Hbl.out]) (by rw [Hsn.out, List.map_append]), Below.app (hx.trans y02) hg3 (by omega) hown' (Nat.le_refl _)⟩
      case measure => simp [intOf]; omega
    · obtain rfl : j = n := by omega
      rw [List.take_of_length_le (by omega)] at hown
      go_wp2
      go_ret2
      exact ⟨_, rfl, hown, hx⟩
end Go.Proofs.YtiildgoaiookhaaGreat

/- The walk of shown of layer 3's laws. -/
namespace Go.Proofs.YtiildgoaiookhaaGreat
open Go.RowKit

def sh1 : FV := ⟨1, 0, 5, none, 0, 0, []⟩
def sh2 (g : Nat) : FV := ⟨2, 2, 0, some ⟨g, 0, none⟩, 2, 2, [7, 7]⟩
theorem sh1_bytes : fbytes sh1 = [8, 5] := by
  have e1 : vput 8 = [8] := vput_small (by omega)
  have e2 : vput 5 = [5] := vput_small (by omega)
  simp [fbytes, fput, sh1, e1, e2]
theorem sh2_bytes (g : Nat) : fbytes (sh2 g) = [18, 2, 7, 7] := by
  have e1 : vput 18 = [18] := vput_small (by omega)
  have e2 : vput 2 = [2] := vput_small (by omega)
  simp [fbytes, fput, sh2, e1, e2]
theorem sh_may (g : Nat) : fmay [sh1, sh2 g] = 0 := by
  have h1 : fsize sh1 = 2 := by show (fbytes sh1).length = 2; rw [sh1_bytes]; rfl
  have h2 : fsize (sh2 g) = 4 := by show (fbytes (sh2 g)).length = 4; rw [sh2_bytes]; rfl
  unfold fmay
  rw [mayScan_cons, if_neg (by decide), if_neg (by decide), if_neg (by decide), mayScan_cons, if_neg (by simp [aloneB, sh2]), if_neg (by simp [fallsB, risesB, sh1, sh2]), if_neg (by simp [sh2]), mayScan_nil, h1, h2]
  rfl

end Go.Proofs.YtiildgoaiookhaaGreat

/- The walk of the law TlvLong. -/
namespace Go.Proofs.YtiildgoaiookhaaGreat
open Go.RowKit

/-- how many bytes a field has, as the law counts them -/
def flen (f : FV) : Nat := (if 16 ≤ f.num then 1 else 0) + 1 + (if f.wire = 0 then (vput f.n).length else (vput f.len).length + f.len)
def flens (l : List FV) : Nat := (l.map flen).sum
theorem flen_le {f : FV} {w : World} (hk : f.Ok w) (hl : f.len ≤ 17000) : flen f ≤ 17012 := by
  unfold flen
  have h2 : (vput f.n).length ≤ 10 := by rw [vput_len]; exact hk.u.size
  have h3 : (vput f.len).length ≤ 10 := by rw [vput_len]; exact U64.size (by unfold U64; omega)
  split <;> split <;> omega
theorem flen_eq {f : FV} {w : World} (ha : aloneB f = true) (hk : f.Ok w) : fsize f = flen f := by
  obtain ⟨num, wire, h1, h2, hm⟩ := alone_tag ha
  have hl := hk.bs.len
  unfold fsize flen fput
  rw [h1, h2, Int.toNat_natCast, Int.toNat_natCast, List.length_append, tag_len hm]
  have e1 : (if num < 16 then 1 else 2) = (if (16 : Int) ≤ (num : Int) then 1 else 0) + 1 := by
    by_cases h : num < 16
    · rw [if_pos h, if_neg (by omega)]
    · rw [if_neg h, if_pos (by omega)]
  rw [e1]
  generalize (if (16 : Int) ≤ (num : Int) then 1 else 0) = z
  by_cases hw : wire = 0
  · rw [if_pos hw, if_pos (by omega)]
  · rw [if_neg hw, if_neg (by omega), List.length_append, hl]
theorem flens_take (l : List FV) (j : Nat) (h : j < l.length) : flens (l.take (j + 1)) = flens (l.take j) + flen l[j] := by
  unfold flens; rw [List.take_succ_eq_append_getElem h, List.map_append, List.sum_append]; simp
theorem fsum_flens {w : World} : ∀ (l : List FV), (∀ f ∈ l, aloneB f = true) → (∀ f ∈ l, f.Ok w) → fsum l = flens l
  | [], _, _ => rfl
  | f :: r, h1, h2 => by
    have ih := fsum_flens r (fun x hx => h1 x (List.mem_cons_of_mem _ hx)) (fun x hx => h2 x (List.mem_cons_of_mem _ hx))
    have := flen_eq (h1 f (List.mem_cons_self ..)) (h2 f (List.mem_cons_self ..))
    unfold fsum flens at ih ⊢
    rw [List.map_cons, List.sum_cons, List.map_cons, List.sum_cons, ih, this]
theorem mayScan_vals : ∀ (p : Option FV) (size : Nat) (l : List FV), mayScan p size l = 0 ∨ mayScan p size l = 1 ∨ mayScan p size l = 5 ∨ mayScan p size l = 4
  | p, size, [] => by rw [mayScan_nil]; split <;> simp
  | p, size, f :: r => by
    rw [mayScan_cons]
    split
    · simp
    · split
      · simp
      · split
        · simp
        · exact mayScan_vals _ _ r
/-- why a row may not be -/
theorem fmay_no {w : World} {l : List FV} (hok : ∀ f ∈ l, f.Ok w) (h : fmay l ≠ 0) : fmay l = 1 ∨ fmay l = 5 ∨ fmay l = 4 ∧ (16384 < flens l ∨ 1 < l.length) := by
  rcases mayScan_vals none 0 l with h1 | h1 | h1 | h1
  · exact absurd h1 h
  · exact .inl h1
  · exact .inr (.inl h1)
  · refine .inr (.inr ⟨h1, ?_⟩)
    match l with
    | [] => simp [mayScan_nil] at h1
    | [f] =>
      left
      rw [mayScan_cons] at h1
      have hk := hok f (List.mem_cons_self ..)
      by_cases ha : aloneB f = false
      · rw [if_pos ha] at h1; cases h1
      · have ha' : aloneB f = true := by simpa using ha
        have he := flen_eq ha' hk
        have e : flens [f] = flen f := by simp [flens]
        rw [if_neg ha, if_neg (by simp [fallsB])] at h1
        by_cases hl : 16384 < f.len
        · rw [e, ← he]
          obtain ⟨num, wire, g1, g2, hm⟩ := alone_tag ha'
          have h0 : f.wire ≠ 0 := by
            intro h0
            unfold aloneB at ha'
            by_cases k1 : f.num < 1
            · rw [if_pos k1] at ha'; cases ha'
            · rw [if_neg k1] at ha'
              by_cases k2 : 1000 < f.num
              · rw [if_pos k2] at ha'; cases ha'
              · rw [if_neg k2, if_pos h0] at ha'
                have := eq_of_beq ha'
                omega
          have : flen f = (if 16 ≤ f.num then 1 else 0) + 1 + ((vput f.len).length + f.len) := by unfold flen; rw [if_neg h0]
          omega
        · rw [if_neg hl, mayScan_nil] at h1
          rw [e, ← he]
          by_cases hs : 16384 < 0 + fsize f
          · omega
          · rw [if_neg hs] at h1; cases h1
    | f :: g :: r => right; simp

theorem fewL_ok {w : World} {l : List FV} (h : ∀ f ∈ l, f.Ok w) : ∀ f ∈ fewL l, f.Ok w ∧ f.len ≤ 17000 := by
  intro f hf
  unfold fewL at hf
  obtain ⟨i, hi, rfl⟩ := List.mem_mapIdx.1 hf
  have hk := h _ (List.mem_of_mem_take (List.getElem_mem hi))
  unfold fewAt
  split
  · exact ⟨cutF_ok hk, by unfold cutF; split <;> simp_all⟩
  · exact ⟨cutF_ok hk, by unfold cutF; split <;> simp_all; omega⟩

theorem flens_bound {w : World} : ∀ (l : List FV) (j : Nat), (∀ f ∈ l, f.Ok w ∧ f.len ≤ 17000) → flens (l.take j) ≤ j * 17012
  | [], j, _ => by simp [flens]
  | f :: r, 0, _ => by simp [flens]
  | f :: r, j + 1, h => by
    have ih := flens_bound r j (fun x hx => h x (List.mem_cons_of_mem _ hx))
    have := flen_le (h f (List.mem_cons_self ..)).1 (h f (List.mem_cons_self ..)).2
    unfold flens at ih ⊢
    rw [List.take_succ_cons, List.map_cons, List.sum_cons, Nat.succ_mul]
    omega
theorem tlv_Put_any (A : Option Addr) (n c : Nat) (l : List FV) (w : World) (hf : Fs w A n l) (hn : n ≤ 20000) :
    Calls Tryz.prog 32 #[.slice A n c] w fun e w' => ∃ A' k c', e = .returned (.tuple #[.slice A' k c', .int .i64 (fmay l)]) ∧ k = (if fmay l = 0 then fsum l else 0) ∧ Ext w w' := by
  by_cases h : fmay l = 0
  · refine (tlv_Put_ok A n c l w hf hn h).mono ?_
    rintro e w' ⟨v, rfl, hown, hx⟩
    obtain ⟨A', c', rfl, _⟩ := own_form hown
    exact ⟨A', _, c', by rw [h]; rfl, by rw [if_pos h, rput_len], hx⟩
  · refine (tlv_Put_no A n c l w hf hn h).mono ?_
    rintro e w' ⟨rfl, hx⟩
    exact ⟨none, 0, 0, rfl, by rw [if_neg h], hx⟩

end Go.Proofs.YtiildgoaiookhaaGreat
