/- Words and walks that the last text of this claim stands on: ImN, ImU. No condition. -/
import Derived.Test.YtiildgoaiookhaaGreatB16
import Derived.Test.YtiildgoaiookhaaGreatB14
import Derived.Test.YtiildgoaiookhaaGreatB17
import Derived.Test.YtiildgoaiookhaaGreatB07
import Derived.Test.YtiildgoaiookhaaGreatB01
import Derived.Test.YtiildgoaiookhaaGreatB08
/- The walks of image.number, text, numbers, low, fits; a rest as a value. -/
namespace Go.Proofs.YtiildgoaiookhaaGreat
open Go.RowKit

/-! a rest -/
/-- a list of fields, as an element of a row of lists -/
structure WV where
  A : Option Addr
  len : Nat
  cap : Nat
  l : List FV
def WV.cells (f : WV) : List Value := [.slice f.A f.len f.cap]
structure WV.Ok (f : WV) (w : World) : Prop where
  fs : Fs w f.A f.len f.l
  le : f.len ≤ f.cap
  cap : f.cap ≤ maxLen
instance : Thing WV 1 where
  cells := WV.cells
  ok := WV.Ok
  len := fun _ => rfl
  one := fun f u hu => by
    simp only [WV.cells, List.mem_cons, List.not_mem_nil, or_false] at hu
    subst hu; rfl
  ext := fun h he => ⟨h.fs.ext he, h.le, h.cap⟩
theorem WV.Ok.ext {f : WV} {w w' : World} (h : f.Ok w) (he : Ext w w') : f.Ok w' := ⟨h.fs.ext he, h.le, h.cap⟩
abbrev Wss (w : World) (A : Option Addr) (n : Nat) (l : List WV) : Prop := Ts (size := 1) w A n l
theorem Wss.cell {w : World} {A : Option Addr} {n : Nat} {l : List WV} (h : Wss w A n l) {i : Nat} (hi : i < n) (hl : i < l.length) : ∃ b off, A = some ⟨b, off, none⟩ ∧ w.cell? ⟨b, off + i, none⟩ = some (.slice l[i].A l[i].len l[i].cap) := by
  obtain ⟨b, off, e, _, hc⟩ := h.at_ hi
  refine ⟨b, off, e, ?_⟩
  have := hc 0 (by omega)
  rw [Nat.add_zero, Nat.mul_one] at this
  exact this
/-- fields of later versions: of a catalogue, and of each of its snapshots -/
structure XV where
  A1 : Option Addr
  n1 : Nat
  c1 : Nat
  top : List FV
  A2 : Option Addr
  n2 : Nat
  c2 : Nat
  sns : List WV
def XV.val (x : XV) : Value := .agg #[.slice x.A1 x.n1 x.c1, .slice x.A2 x.n2 x.c2]
def XV.more (x : XV) : List (List FV) := x.sns.map WV.l
structure XV.Ok (x : XV) (w : World) : Prop where
  t1 : Fs w x.A1 x.n1 x.top
  le1 : x.n1 ≤ x.c1
  cap1 : x.c1 ≤ maxLen
  t2 : Wss w x.A2 x.n2 x.sns
  le2 : x.n2 ≤ x.c2
  cap2 : x.c2 ≤ maxLen
theorem XV.Ok.ext {x : XV} {w w' : World} (h : x.Ok w) (he : Ext w w') : x.Ok w' := ⟨h.t1.ext he, h.le1, h.cap1, h.t2.ext he, h.le2, h.cap2⟩
/-- few enough -/
structure XV.Few (x : XV) : Prop where
  n1 : x.n1 ≤ 18000
  n2 : x.n2 ≤ 18000
  ln : ∀ m ∈ x.sns, m.len ≤ 18000

/-! the walks -/
set_option maxRecDepth 100000 in
theorem image_number (num : Int) (n : Nat) (m : Int) (hm : m = n) (hn : U64 n) (w : World) : Calls Tryz.prog 35 #[.int .i64 num, .int .i64 m] w fun e w' => e = .returned (.agg #[.int .i64 num, .int .i64 0, .int .u64 n, .slice none 0 0]) ∧ Ext w w' := by
  subst hm
  have hwr : IntKind.u64.wrap (n : Int) = n := hn.wrap
  go_enter Tryz.func35, Tryz.ntmps35
  go_wp2
  refine bodyPost_ret (v := .agg #[.int .i64 num, .int .i64 0, .int .u64 n, .slice none 0 0]) (by simp [results, Tryz.results35, go_sem]) rfl ⟨rfl, ?_⟩
  repeat (refine Ext.setCell ?_ (by simp) _)
  exact (Ext.refl w).alloc _
set_option maxRecDepth 100000 in
theorem image_text (num : Int) (A : Option Addr) (n c : Nat) (w : World) : Calls Tryz.prog 33 #[.int .i64 num, .slice A n c] w fun e w' => e = .returned (.agg #[.int .i64 num, .int .i64 2, .int .u64 0, .slice A n c]) ∧ Ext w w' := by
  go_enter Tryz.func33, Tryz.ntmps33
  go_wp2
  refine bodyPost_ret (v := .agg #[.int .i64 num, .int .i64 2, .int .u64 0, .slice A n c]) (by simp [results, Tryz.results33, go_sem]) rfl ⟨rfl, ?_⟩
  repeat (refine Ext.setCell ?_ (by simp) _)
  exact (Ext.refl w).alloc _

set_option maxRecDepth 100000 in
set_option maxHeartbeats 800000 in
theorem image_numbers (A : Option Addr) (n c : Nat) (l : List Int) (w : World) (h : Is w A n l) (hn : n ≤ 1000) (h0 : ∀ x ∈ l, 0 ≤ x ∧ x ≤ 4611686018427387904) :
    Calls Tryz.prog 30 #[.slice A n c] w fun e w' => ∃ v, e = .returned v ∧ w'.ownsRow w.heap.size 54 4 v (numF 1 l).length (rowOf (numF 1 l)) ∧ Ext w w' := by
  have hlen := h.len
  go_enter Tryz.func30, Tryz.ntmps30
  go_wp2_with fail
  go_loopw [3, 8] (fun v i wr => ∃ j : Nat, i = .int .i64 j ∧ j ≤ n ∧ wr.ownsRow w.heap.size 54 4 v (numF 1 (l.take j)).length (rowOf (numF 1 (l.take j))) ∧ Ext w wr) (fun _ i _ => n - (intOf i).toNat)
  case atStart => exact ⟨0, rfl, by omega, World.ownsRow_nil _ _ _ _, Ext.refl w⟩
  case round =>
    obtain ⟨j, rfl, hj, hown, hx⟩ := hrel
    obtain ⟨v3, rfl⟩ : ∃ v3 : Value, v3 = u3 := ⟨_, rfl⟩
    by_cases hjn : j < n
    · have hjl : j < l.length := by omega
      obtain ⟨b, off, rfl, hc⟩ := (h.ext hx).at_ hjn
      have hb := h0 l[j] (List.getElem_mem _)
      have Hsn := Lib.hid (numF_take l j hjl)
      have hnl := numF_len (l.take j) 1
      have htl : (l.take j).length ≤ 1000 := by rw [List.length_take]; omega
      have hj0 : (0 : Int) ≤ j := by omega
      have hj1 : (j : Int) < n := by omega
      generalize l[j] = x at *
      obtain ⟨m, rfl⟩ : ∃ m : Nat, x = m := ⟨x.toNat, by omega⟩
      by_cases hz : m = 0
      · subst hz
        have hb0 := bne_f (show (((0 : Nat) : Int)) = 0 from rfl)
        have HO := Lib.hid hown
        clear hown
        go_wp2_with fail
        go_roundw
        case rel => exact ⟨j + 1, val_int (by omega), by omega, own_to HO.out (Nat.le_refl _) (by rw [Hsn.out]; simp) (by rw [Hsn.out]; simp), hx⟩
        case measure => simp [intOf]; omega
      · have hb0 := bne_t (show ((m : Nat) : Int) ≠ 0 by omega)
        have hm : (m : Int) ≤ 4611686018427387904 := hb.2
        have hu : U64 m := by unfold U64; omega
        have Hz := Lib.hid hz
        have hszw := hx.size
        clear hz hb
        go_wp2_with fail
        refine (image_number _ m _ rfl hu _).mono ?_
        rintro e w4 ⟨rfl, x4⟩
        have hown4 := own_ext hown x4
        have hx4 := hx.trans x4
        have hsz4 := hx4.size
        clear hown x4
        go_wp2_with (at_builtin; refine wpList_app fieldsT (by omega) _ rfl rfl rfl (hown4.alloc _) rfl (rd_at4 _ (.int .i64 ((j : Int) + 1)) (.int .i64 0) (.int .u64 m) (.slice none 0 0) _ _ (by simp)) (fcells_one _ _ _ _ _ _) (by unfold maxLen; omega) (by omega) (by simp; omega) ?_; intro v1 w1 hown1 hg1 hat1)
        have x1 := Below.app (hx4.alloc _) hg1 (by simp; omega) (hown4.alloc _) (Nat.le_refl _)
        go_roundw
        case rel => exact ⟨j + 1, val_int (by omega), by omega, own_to hown1 (Nat.le_refl _) (by rw [Hsn.out, if_neg (by have := Hz.out; omega)]; simp) (by rw [Hsn.out, if_neg (by have := Hz.out; omega), rowOf_append, rowOf_one]; simp [FV.cells, tfv]), x1⟩
        case measure => simp [intOf]; omega
    · obtain rfl : n = j := by omega
      have HO := Lib.hid (own_to (ys := rowOf (numF 1 l)) (n' := (numF 1 l).length) hown (Nat.le_refl _) (by rw [List.take_of_length_le (by omega)]) (by rw [List.take_of_length_le (by omega)]))
      clear hown
      go_wp2_with fail
      go_ret
      exact ⟨_, rfl, HO.out, hx⟩

set_option maxRecDepth 100000 in
set_option maxHeartbeats 800000 in
theorem image_low (kind ver : Int) (A : Option Addr) (n c : Nat) (l : List FV) (b : Bool) (hb : lowK (topL (specL kind ver)) l = b) (w : World) (hf : Fs w A n l) (hn : n ≤ 1000000) :
    Calls Tryz.prog 69 #[.slice A n c, .int .i64 kind, .int .i64 ver] w fun e w' => e = .returned (.bool b) ∧ Ext w w' := by
  have hlen := hf.len
  have HT := Lib.hid (forms_Top kind ver w)
  generalize topL (specL kind ver) = K at *
  have HB := Lib.hid hb
  clear hb
  go_enter Tryz.func69, Tryz.ntmps69
  go_wp2_with fail
  refine HT.out.mono ?_
  rintro e w1 ⟨rfl, x1⟩
  clear HT
  go_wp2_with fail
  go_loopw [15] (fun i wr => ∃ j : Nat, i = .int .i64 j ∧ j ≤ n ∧ Hid (lowK K (l.take j) = false) ∧ Ext w wr) (fun i _ => n - (intOf i).toNat)
  case atStart => exact ⟨0, rfl, by omega, Lib.hid rfl, x1⟩
  case round =>
    clear x1
    obtain ⟨j, rfl, hj, HJ, hxr⟩ := hrel
    by_cases hjn : j < n
    · have hjl : j < l.length := by omega
      obtain ⟨bb, off, rfl, hc0, hc1, hc2, hc3⟩ := (hf.ext hxr).at_ hjn
      have Hsn := Lib.hid (lowK_snoc K l j hjl)
      have Hin : Hid (l[j] ∈ l) := Lib.hid (List.getElem_mem _)
      generalize l[j] = f at *
      have hj0 : (0 : Int) ≤ j := by omega
      have hj1 : (j : Int) < n := by omega
      by_cases h10 : f.num ≤ K
      · have hbt : b = true := by
          rw [← HB.out]
          unfold lowK
          rw [List.any_eq_true]
          exact ⟨f, Hin.out, by simpa using h10⟩
        subst hbt
        go_wp2_with fail
        go_ret
        exact ⟨rfl, hxr.alloc _⟩
      · have h10' : (K : Int) < f.num := by omega
        have H10 := Lib.hid h10
        clear h10
        go_wp2_with fail
        go_roundw
        case rel => exact ⟨j + 1, val_int (by omega), by omega, Lib.hid (by rw [Hsn.out, HJ.out]; simpa using H10.out), hxr.alloc _⟩
        case measure => simp [intOf]; omega
    · obtain rfl : n = j := by omega
      have hbf : b = false := by
        have e := HJ.out
        rw [List.take_of_length_le (by omega), HB.out] at e
        exact e
      subst hbf
      go_wp2_with fail
      go_ret
      exact ⟨rfl, hxr⟩
end Go.Proofs.YtiildgoaiookhaaGreat

/- The walk of command.Unchunk. -/
namespace Go.Proofs.YtiildgoaiookhaaGreat
open Go.RowKit

theorem natsOf_len (b : List UInt8) : (natsOf b).length = b.length := by simp [natsOf]
theorem natsOf_snoc (b : List UInt8) (j : Nat) (h : j < b.length) : natsOf (b.take (j + 1)) = natsOf (b.take j) ++ [(b[j].toNat : Int)] := by
  unfold natsOf; rw [List.take_succ_eq_append_getElem h, List.map_append]; rfl
/-- a small number is one byte -/
theorem vtake_small {b : List UInt8} {j N s : Nat} (h : j < b.length) (hv : vtake (b.drop j) = (N, s, 0)) (hN : N ≤ 64) : s = 1 ∧ b[j].toNat = N := by
  obtain ⟨h1, h2, h3⟩ := vtake_sound hv
  rw [vput_small (by omega)] at h1
  have hs : s = 1 := by
    have := congrArg List.length h1
    rw [List.length_take] at this
    simp at this; rw [h3]; unfold vsize; simp [show N < 128 by omega]
  subst hs
  rw [List.drop_eq_getElem_cons h] at h1
  simp only [List.take_succ_cons, List.take_zero, List.cons.injEq, and_true] at h1
  refine ⟨rfl, ?_⟩
  rw [← h1, UInt8.toNat_ofNat']
  omega
theorem unch_bad {b : List UInt8} {j : Nat} (h : j < b.length) (hv : ¬ ((vtake (b.drop j)).2.2 = 0 ∧ (vtake (b.drop j)).1 ≤ 64)) : unch b = [] := by
  unfold unch
  rw [if_neg]
  intro hr
  refine hv ?_
  have h64 : ((b[j].toNat : Nat) : Int) ≤ 64 := by
    have hm : ((b[j].toNat : Nat) : Int) ∈ natsOf b := List.mem_map.2 ⟨b[j], List.getElem_mem h, rfl⟩
    exact (rowCh_in hr _ hm).2
  have e : b.drop j = vput b[j].toNat ++ b.drop (j + 1) := by
    rw [List.drop_eq_getElem_cons h, vput_small (by omega)]
    simp
  rw [e, vtake_put (by unfold U64; omega)]
  exact ⟨rfl, by omega⟩
theorem unch_i64 (b : List UInt8) : ∀ y ∈ unch b, I64 y := by
  intro y hy
  unfold unch at hy
  split at hy
  · rename_i hr
    have := rowCh_in hr y hy
    exact ⟨by omega, by omega⟩
  · simp at hy
/-- what Unchunk leaves -/
def UnchPost (b : List UInt8) (w : World) (e : Ending) (w' : World) : Prop :=
  ∃ A c code, e = .returned (.tuple #[.slice A (unch b).length c, .int .i64 code]) ∧ w'.ownsRow w.heap.size 3 1 (.slice A (unch b).length c) (unch b).length ((unch b).map (Value.int .i64)) ∧ Ext w w'
set_option maxRecDepth 100000 in
set_option maxHeartbeats 1600000 in
theorem cmd_Unchunk (A : Option Addr) (n c : Nat) (b : List UInt8) (w : World) (hb : Bs w A n b) (hn : n ≤ 20000) (hnc : n ≤ c) : Calls Tryz.prog 77 #[.slice A n c] w (UnchPost b w) := by
  have HE : Hid (∀ (W : World) (e : Ending), UnchPost b w e W ↔ ∃ A c code, e = .returned (.tuple #[.slice A (unch b).length c, .int .i64 code]) ∧ W.ownsRow w.heap.size 3 1 (.slice A (unch b).length c) (unch b).length ((unch b).map (Value.int .i64)) ∧ Ext w W) := Lib.hid fun _ _ => Iff.rfl
  have HBAD := Lib.hid (fun j (h : j < b.length) hv => unch_bad (b := b) (j := j) h hv)
  have HUN : Hid (unch b = if rowChB (natsOf b) = true then natsOf b else []) := Lib.hid rfl
  generalize UnchPost b w = POST at *
  generalize unch b = UB at *
  have hlen := hb.len
  have h0 := World.ownsRow_nil w w.heap.size 3 1
  go_enter Tryz.func77, Tryz.ntmps77
  go_wp2_with fail
  go_loopw [4, 5] (fun v i wr => ∃ j : Nat, i = .int .i64 j ∧ j ≤ n ∧ wr.ownsRow w.heap.size 3 1 v j ((natsOf (b.take j)).map (Value.int .i64)) ∧ Ext w wr) (fun _ i _ => n - (intOf i).toNat)
  case atStart => exact ⟨0, rfl, by omega, by simpa [natsOf] using h0, Ext.refl w⟩
  case round =>
    clear h0
    obtain ⟨j, rfl, hj, hown, hx⟩ := hrel
    obtain ⟨v4, rfl⟩ : ∃ v4 : Value, v4 = u4 := ⟨_, rfl⟩
    by_cases hjn : j < n
    · have hjl : j < b.length := by omega
      obtain ⟨A', c', hc', HC, HB'⟩ := cut_bytes bytesT A (show j ≤ n by omega) hnc (j : Int) rfl
      have HVT := Lib.hid (varint_Take A' (n - j) c' (b.drop j) wr (HB' wr b (hb.ext hx)) (by omega))
      have Hsn := Lib.hid (natsOf_snoc b j hjl)
      have HBD := Lib.hid (HBAD.out j hjl)
      have HSM := Lib.hid (fun N s => vtake_small (N := N) (s := s) hjl)
      have HU := Lib.hid (vtake_cases (b.drop j))
      have hj0 : (0 : Int) ≤ j := by omega
      have hj1 : (j : Int) < n := by omega
      have hsz := hx.size
      generalize vtake (b.drop j) = V at *
      obtain ⟨N, s, code⟩ := V
      generalize b[j] = bj at *
      dsimp only at HVT HBD HSM HU
      clear HB' HBAD
      go_wp2_with fail
      refine HVT.out.mono ?_
      rintro e w2 ⟨rfl, rfl⟩
      clear HVT HC
      by_cases hcode : code = 0
      · subst hcode
        have hN64 : N < 18446744073709551616 := by
          rcases HU.out with ⟨h, _⟩ | h | ⟨n', s', h, hu, _⟩
          · cases h
          · cases h
          · simp only [Prod.mk.injEq] at h
            rw [h.1]; exact hu
        by_cases hN : N ≤ 64
        · obtain ⟨hs1, hbj⟩ := HSM.out N s rfl hN
          subst hs1
          have hN' : ¬ (64 < (N : Int)) := by omega
          have HBJ := Lib.hid hbj
          have HN64 : Hid ((N : Int) ≤ 64) := Lib.hid (by omega)
          clear hbj hN HSM HBD HU hN64
          have p1 : j + 1 ≤ maxLen := by unfold maxLen; omega
          have p2 : (j + 1) * 8 ≤ 140737488355328 := by omega
          have P3 := Lib.hid (fun (o : Obj) => (show w.heap.size ≤ (wr.alloc o).heap.size by simp; omega))
          have hwr' : wrap64 (N : Int) = N := (wrap64_eq _).trans (IntWalk.i64_in _ ⟨by omega, by omega⟩)
          go_upto_region 7 with fail
          go_wp2_with (at_builtin; refine wpList_app intsT Nat.one_pos _ rfl rfl rfl (hown.alloc _) rfl (rd_new1 _ _ _) (one1 rfl) p1 p2 (P3.out _) ?_; intro v1 w1 hown1 hg1 hat1)
          clear hwr'
          have x1 := Below.app (hx.alloc _) hg1 (P3.out _) (hown.alloc _) (Nat.le_refl _)
          go_roundw
          case rel => exact ⟨j + 1, val_int (by omega), by omega, own_to hown1 (Nat.le_refl _) rfl (by rw [Hsn.out, List.map_append, HBJ.out]; rfl), x1⟩
          case measure => simp [intOf]; omega
        · have hub : UB = [] := HBD.out (fun h => hN h.2)
          have hN' : 64 < (N : Int) := by omega
          have hN2 : (64 : Int) < N := by omega
          clear HBD HSM HU hN
          subst hub
          go_wp2_with fail
          exact (HE.out _ _).2 ⟨none, 0, 6, rfl, World.ownsRow_nil _ _ _ _, hx⟩
      · have hub : UB = [] := HBD.out (fun h => hcode h.1)
        have hcb := bne_t (show ((code : Nat) : Int) ≠ 0 by omega)
        clear HBD HSM HU hcode
        subst hub
        go_wp2_with fail
        exact (HE.out _ _).2 ⟨none, 0, 6, rfl, World.ownsRow_nil _ _ _ _, hx⟩
    · obtain rfl : n = j := by omega
      rw [List.take_of_length_le (by omega)] at hown
      obtain ⟨Ar, cr, rfl, _⟩ := own_form hown
      have HRW := Lib.hid (cmd_row Ar n cr (natsOf b) wr (Is.of_own hown) (by omega))
      have HN := Lib.hid (natsOf_len b)
      have HOW := Lib.hid hown
      clear hown HBAD
      generalize natsOf b = NB at *
      rcases hrow : rowChB NB with _ | _
      · rw [hrow] at HRW
        have hub : UB = [] := by rw [HUN.out, hrow]; rfl
        subst hub
        clear HUN hrow
        go_wp2_with fail
        refine HRW.out.mono ?_
        rintro e w2 ⟨rfl, rfl⟩
        go_wp2_with fail
        exact (HE.out _ _).2 ⟨none, 0, 6, rfl, World.ownsRow_nil _ _ _ _, hx⟩
      · rw [hrow] at HRW
        have hub : UB = NB := by rw [HUN.out, hrow]; rfl
        have hnl : NB.length = n := by rw [HN.out]; exact hlen
        have HNL := Lib.hid hnl
        subst hub
        clear HUN hrow hnl
        go_wp2_with fail
        refine HRW.out.mono ?_
        rintro e w2 ⟨rfl, rfl⟩
        go_wp2_with fail
        exact (HE.out _ _).2 ⟨Ar, cr, 0, by rw [HNL.out]; rfl, by rw [HNL.out]; exact HOW.out, hx⟩
end Go.Proofs.YtiildgoaiookhaaGreat
