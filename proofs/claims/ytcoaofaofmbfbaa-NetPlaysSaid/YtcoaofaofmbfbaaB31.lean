/- Words and walks that the last text of this claim stands on: NtC, NtD. No condition. -/
import Derived.Test.YtcoaofaofmbfbaaB30
import Derived.Deep.RegionLaw
import Derived.Lib.SliceRun
import Derived.Test.YtcoaofaofmbfbaaB16
/- slices.Delete of one in a row of slices of bytes. -/
namespace Go.Proofs.Ytcoaofaofmbfbaa
open Go.RowKit

theorem rowsT : SliceT Try.prog 66 29 1 24 := .mk' Try.underlying66 (z := .slice none 0 0) (by kernel_rfl) rfl
theorem rowsI : (Try.prog.info? 29).map (fun i => (i.zero, i.size, i.bytes)) = some (some (.slice none 0 0), 1, 24) := by kernel_rfl
theorem zeroS (w : World) : (zeroValue 29).run Try.prog w = .ok (.slice none 0 0) w := by kernel_rfl
theorem Blk.setCells {t : TypeId} {g : Nat} : ∀ (vs : List Value) (o : Nat) (w : World) (l : List Value), Blk w g t l → o + vs.length ≤ l.length → Blk (w.setCells g o vs) g t (l.take o ++ vs ++ l.drop (o + vs.length))
  | [], o, w, l, h, _ => by simpa [World.setCells] using h
  | v :: r, o, w, l, h, hl => by
    simp only [List.length_cons] at hl
    have h1 := Blk.setCells r (o + 1) _ _ (h.set_ o v) (by simp; omega)
    unfold World.setCells
    have e : (l.set o v).take (o + 1) ++ r ++ (l.set o v).drop (o + 1 + r.length) = l.take o ++ (v :: r) ++ l.drop (o + (v :: r).length) := by
      have hd : (l.set o v).drop (o + 1 + r.length) = l.drop (o + (v :: r).length) := by
        rw [List.drop_set_of_lt (by omega)]
        congr 1
        simp only [List.length_cons]; omega
      rw [hd, List.take_succ_eq_append_getElem (by simp; omega), List.getElem_set_self, List.take_set_of_le (Nat.le_refl _)]
      simp
    rw [e] at h1
    exact h1
theorem Fr.setCells {F : Nat → Bool} {g : Nat} (hg : F g = true) : ∀ (vs : List Value) (o : Nat) (w : World), Fr F w (w.setCells g o vs)
  | [], _, w => Fr.refl F w
  | v :: r, o, w => (Fr.setCell w (p := ⟨g, o, none⟩) hg v).trans (Fr.setCells hg r (o + 1) _)
set_option maxHeartbeats 1600000 in
set_option maxRecDepth 1000000 in
theorem rows_Delete (b n c i : Nat) (cur : List Value) (w : World) (hb : Blk w b 29 cur) (hl : cur.length = c) (hn : n ≤ c) (hc : c ≤ maxLen) (hi : i < n) (hone : ∀ u ∈ cur.take n, u.oneCell' = true) :
    Calls Try.prog 90 #[.slice (some ⟨b, 0, none⟩) n c, .int .i64 i, .int .i64 ((i : Int) + 1)] w fun e w' => e = .returned (.slice (some ⟨b, 0, none⟩) (n - 1) c) ∧ Blk w' b 29 (cur.take i ++ (cur.take n).drop (i + 1) ++ (.slice none 0 0) :: cur.drop n) ∧ Fr (fun k => k == b) w w' := by
  obtain ⟨i0, hi0, hz0, hz1, hz2⟩ := info_parts rowsI
  have hmx : c ≤ 9223372036854775807 := by unfold maxLen at hc; omega
  obtain ⟨M, hM⟩ : ∃ M, M = (cur.take n).drop (i + 1) := ⟨_, rfl⟩
  have hMl : M.length = n - (i + 1) := by rw [hM]; simp; omega
  have hMg : ∀ j u, M[j]? = some u → w.cell? ⟨b, i + 1 + j, none⟩ = some u := by
    intro j u hu
    have hj : j < n - (i + 1) := by have := (List.getElem?_eq_some_iff.1 hu).1; omega
    rw [hb.cell, ← hu, hM, List.getElem?_drop, List.getElem?_take_of_lt (by omega)]
  obtain ⟨A, hA, hnews⟩ : ∃ A : Addr, (if c = i + 1 then some (⟨b, 0, none⟩ : Addr) else some ⟨b, i + 1, none⟩) = some A ∧ Hid (∀ j u, M[j]? = some u → w.drew.cell? (A.add j) = some u) := by
    by_cases h : c = i + 1
    · refine ⟨⟨b, 0, none⟩, by simp [h], fun j u hu => ?_⟩
      have h0 : M.length = 0 := by omega
      rw [List.length_eq_zero_iff.1 h0] at hu
      simp at hu
    · refine ⟨⟨b, i + 1, none⟩, by simp [h], fun j u hu => ?_⟩
      rw [plain_add]
      exact hMg j u hu
  have s1 : Hid (M.length = (n - (i + 1)) * 1) := by rw [Nat.mul_one]; exact hMl
  have s2 : Hid (∀ u ∈ M, u.oneCell' = true) := by
    intro u hu
    rw [hM] at hu
    exact hone u (List.mem_of_mem_drop hu)
  have s3 : Hid (∀ j, j < M.length → (w.drew.cell? ⟨b, 0 + i * 1 + j, none⟩).isSome = true ∧ w.drew.frozen? ⟨b, 0 + i * 1 + j, none⟩ = false) := by
    intro j hj
    refine ⟨?_, hb.drew.frozen _⟩
    rw [hb.drew.cell, List.getElem?_eq_getElem (by omega)]; rfl
  have hB2 := Blk.setCells M i w.drew cur hb.drew (by omega)
  have hFr := (Fr.drew (fun k => k == b) w).trans (Fr.setCells (F := fun k => k == b) (g := b) (by simp) M i w.drew)
  have hlen2 : (cur.take i ++ M ++ cur.drop (i + M.length)).length = c := by simp; omega
  have HBL := Lib.hid hB2
  have HFR := Lib.hid hFr
  have hic : i ≤ c := by omega
  have hwr : IntKind.i64.wrap ((i : Int) + 1) = (i : Int) + 1 := IntWalk.i64_in _ ⟨by omega, by omega⟩
  have hp0 : (0 : Int) ≤ (i : Int) + 1 := by omega
  have hp1 : (i : Int) + 1 ≤ (n : Int) := by omega
  have hp2 : ((i : Int) + 1).toNat = i + 1 := by omega
  have hne : ((i : Int) == (i : Int) + 1) = false := beq_f (by omega)
  have hii : (i : Int) ≤ (i : Int) + 1 := by omega
  have hkn : i + (n - (i + 1)) = n - 1 := by omega
  have hcl : ∀ ty, (Builtin.clear_ #[66] ty #[.slice (some ⟨b, n - 1, none⟩) 1 (c - (n - 1))]).run Try.prog (w.drew.setCells b i M) = .ok (.tuple #[]) ((w.drew.setCells b i M).setCells b (n - 1) (List.replicate 1 (.slice none 0 0))) :=
    fun ty => Lib.run_clear_slice _ 66 29 ty (.slice none 0 0) Try.underlying66 zeroS rfl rfl b (n - 1) 1 _ (by omega) (fun j hj => by rw [hB2.cell, List.getElem?_eq_getElem (by omega)]; rfl) (fun j hj => hB2.frozen _)
  have HMM := Lib.hid hM
  clear hb hB2 hFr hone hMg hM
  go_enter Try.func90, Try.ntmps90
  go_upto_region 5 with fail
  go_region_law (refine step_append_room rfl (.tmp 22) (.tmp 25) 66 rfl 29 i0 1 Try.underlying66 hi0 hz1 b 0 i c (by simp [Act.eval, Act.put]) A (n - (i + 1)) (c - (i + 1)) M (by simp [Act.eval, Act.put]) s1.out hnews.out s2.out (by omega) s3.out ?_)
  go_upto_region 6 with fail
  have hn1 : n - (n - 1) = 1 := by omega
  have q0 : ((n - 1 : Nat) : Int) ≤ (n : Int) := by omega
  have q1 : ¬ c = n - 1 := by omega
  have q2 : (n : Int) ≤ (c : Int) := by omega
  go_wp2_with (simp only [hcl])
  go_ret
  have hB3 := Blk.setCells [Value.slice none 0 0] (n - 1) _ _ HBL.out (by simp only [List.length_singleton]; omega)
  refine ⟨rfl, ?_, HFR.out.trans (Fr.setCells (F := fun k => k == b) (g := b) (by simp) _ _ _)⟩
  have e : (cur.take i ++ M ++ cur.drop (i + M.length)).take (n - 1) ++ [.slice none 0 0] ++ (cur.take i ++ M ++ cur.drop (i + M.length)).drop (n - 1 + [Value.slice none 0 0].length) = cur.take i ++ (cur.take n).drop (i + 1) ++ (.slice none 0 0) :: cur.drop n := by
    have h1 : (cur.take i ++ M).length = n - 1 := by simp; omega
    rw [List.take_append_of_le_length (by omega), List.take_of_length_le (by omega), ← HMM.out]
    rw [List.drop_append, List.drop_of_length_le (by rw [h1]; simp), List.drop_drop]
    simp only [List.length_singleton, List.nil_append, List.append_assoc, List.singleton_append]
    congr 3
    congr 1
    congr 1
    simp; omega
  rw [← e]
  exact hB3
end Go.Proofs.Ytcoaofaofmbfbaa

/- The walks of net's remove, Drop, Bytes, Take. -/
namespace Go.Proofs.Ytcoaofaofmbfbaa
open Go.RowKit

theorem Net.split {w : World} {F : Nat → Bool} {g : Nat} {x : NetV} (h : Net w F g x) {i : Nat} (hi : i < x.n) : ∃ b cur, x.A = some ⟨b, 0, none⟩ ∧ Blk w b 29 cur ∧ cur.length = x.c ∧ x.n ≤ x.c ∧ x.c ≤ maxLen ∧ cur.take x.n = x.l.map BSV.val := by
  rcases h.row.2 with ⟨e, h0⟩ | ⟨b, cap, cur, e, _, hb, hnc, hcm, hcs, htk⟩
  · omega
  · injection e with e1 e2 e3
    subst e3
    refine ⟨b, cur.toList, e1, hb, by simpa using hcs, hnc, hcm, by simpa using htk⟩
def NetV.erase (x : NetV) (i : Nat) : NetV := { x with n := x.n - 1, l := x.l.eraseIdx i }
theorem pairwise_erase {α : Type} {R : α → α → Prop} : ∀ (l : List α) (i : Nat), l.Pairwise R → (l.eraseIdx i).Pairwise R := fun l i h => h.sublist (List.eraseIdx_sublist l i)
/-- one is taken out of a net's row -/
theorem Net.erased {w w1 : World} {F : Nat → Bool} {g : Nat} {x : NetV} (h : Net w F g x) {i : Nat} (hi : i < x.n) {b : Nat} {cur : List Value} (hA : x.A = some ⟨b, 0, none⟩) (hb : Blk w b 29 cur) (hcl : cur.length = x.c) (hnc : x.n ≤ x.c) (hcm : x.c ≤ maxLen) (htk : cur.take x.n = x.l.map BSV.val)
    (hb1 : Blk w1 b 29 (cur.take i ++ (cur.take x.n).drop (i + 1) ++ (.slice none 0 0) :: cur.drop x.n)) (hf : Fr (fun k => k == b) w w1) : Net (w1.setCell ⟨g, 0, none⟩ (.slice (some ⟨b, 0, none⟩) (x.n - 1) x.c)) F g (x.erase i) ∧ Fr F w (w1.setCell ⟨g, 0, none⟩ (.slice (some ⟨b, 0, none⟩) (x.n - 1) x.c)) ∧ ∀ y ∈ x.l, OwnB (w1.setCell ⟨g, 0, none⟩ (.slice (some ⟨b, 0, none⟩) (x.n - 1) x.c)) y := by
  have hl := h.len
  have hgb : b ≠ g := hb.ne_ h.blk (by decide)
  have hFb : F b = true := h.rF b (by rw [hA]; rfl)
  have hg1 : Blk w1 g 99 _ := h.blk.fr hf (by simpa using fun e => hgb e.symm)
  have el1 : ∀ y ∈ x.l, OwnB w1 y := fun y hy => (h.el y hy).fr hf fun k hk => by
    have hne := own_blk_ne (h.el y hy).own hb (by decide)
    cases e : (k == b) with
    | false => rfl
    | true => exact absurd (by rw [← eq_of_beq e]; exact hk) hne
  have el2 : ∀ y ∈ x.l, OwnB (w1.setCell ⟨g, 0, none⟩ (.slice (some ⟨b, 0, none⟩) (x.n - 1) x.c)) y := fun y hy => (el1 y hy).far (own_blk_ne (el1 y hy).own hg1 (by decide)) _
  have hFr : Fr F w (w1.setCell ⟨g, 0, none⟩ (.slice (some ⟨b, 0, none⟩) (x.n - 1) x.c)) := (hf.mono fun k _ hk => by rw [eq_of_beq hk]; exact hFb).trans (Fr.setCell w1 (p := ⟨g, 0, none⟩) h.gF _)
  refine ⟨⟨by have := hg1.set_ 0 (.slice (some ⟨b, 0, none⟩) (x.n - 1) x.c); rw [show (x.erase i).A = x.A from rfl, hA]; exact this, ?_, fun y hy => el2 y (List.mem_of_mem_eraseIdx hy), pairwise_erase _ _ h.ap, by have := h.few; show x.n - 1 ≤ 256; omega, h.gF, by rw [show (x.erase i).A = x.A from rfl, hA]; intro k hk; simp only [Value.ownBlock, Option.some.injEq] at hk; subst hk; exact hFb, fun y hy => h.eF y (List.mem_of_mem_eraseIdx hy), fun k hk => Nat.lt_of_lt_of_le (h.ub k hk) hFr.size, h.s0, h.t0, h.l0⟩, hFr, el2⟩
  have hb2 := hb1.far (p := ⟨g, 0, none⟩) hgb (.slice (some ⟨b, 0, none⟩) (x.n - 1) x.c)
  refine ⟨by simp [NetV.erase, List.length_eraseIdx, hl, hi], .inr ⟨b, x.c, (cur.take i ++ (cur.take x.n).drop (i + 1) ++ (.slice none 0 0) :: cur.drop x.n).toArray, by show Value.slice x.A (x.n - 1) x.c = _; rw [hA]; rfl, Nat.zero_le _, hb2, by show x.n - 1 ≤ x.c; omega, hcm, ?_, ?_⟩⟩
  · simp; omega
  · have h1 : (cur.take i ++ (cur.take x.n).drop (i + 1)).length = x.n - 1 := by simp; omega
    rw [show (x.erase i).n * 1 = x.n - 1 from Nat.mul_one _]
    show ((cur.take i ++ (cur.take x.n).drop (i + 1)) ++ (.slice none 0 0) :: cur.drop x.n).take (x.n - 1) = (x.l.eraseIdx i).map BSV.val
    rw [List.take_append_of_le_length (by omega), List.take_of_length_le (by omega), List.eraseIdx_eq_take_drop_succ, List.map_append, List.map_take, List.map_drop, ← htk, List.take_take, Nat.min_eq_left (by omega)]
set_option maxRecDepth 100000 in
set_option maxHeartbeats 800000 in
theorem net_remove (F : Nat → Bool) (g : Nat) (x : NetV) (i : Nat) (w : World) (h : Net w F g x) (hi : i < x.n) (hl : i < x.l.length) :
    Calls Try.prog 68 #[.pointer (some ⟨g, 0, none⟩), .int .i64 i] w fun e w' => e = .returned (x.l[i]).val ∧ Net w' F g (x.erase i) ∧ Fr F w w' ∧ OwnB w' x.l[i] := by
  obtain ⟨d0, _⟩ := h.cells
  obtain ⟨b, hA, hc⟩ := h.row_cell hi
  obtain ⟨b', cur, hA', hb, hcl, hnc, hcm, htk⟩ := h.split hi
  obtain rfl : b' = b := by rw [hA] at hA'; injection hA' with e; injection e with e _; exact e.symm
  have HD := Lib.hid (rows_Delete b' x.n x.c i cur w hb hcl hnc hcm hi (by rw [htk]; exact bvs_cells x.l))
  have HER := Lib.hid (fun (w1 : World) hb1 hf => Net.erased h (w1 := w1) hi hA hb hcl hnc hcm htk hb1 hf)
  have HFR := Lib.hid (fun (w1 : World) (hf : Fr (fun k => k == b') w w1) => (show w1.frozen? ⟨g, 0, none⟩ = false from (h.blk.fr hf (by have := hb.ne_ h.blk (by decide); simpa using fun e => this e.symm)).frozen 0))
  have HCL := Lib.hid (fun (w1 : World) (hf : Fr (fun k => k == b') w w1) => (show (w1.cell? ⟨g, 0, none⟩) = some (.slice x.A x.n x.c) from (h.blk.fr hf (by have := hb.ne_ h.blk (by decide); simpa using fun e => this e.symm)).cell 0))
  have hmem : x.l[i] ∈ x.l := List.getElem_mem _
  generalize x.l[i] = y at *
  have hii : (i : Int) < (x.n : Int) := by omega
  have hi0 : (0 : Int) ≤ i := by omega
  have hi1 : (i : Int) ≤ 256 := by have := h.few; omega
  clear h hb hcl hnc hcm htk hA'
  rw [hA] at d0
  have HA := Lib.hid hA
  clear hA
  unfold BSV.val at hc ⊢
  go_enter Try.func68, Try.ntmps68
  go_wp2_with fail
  refine HD.out.mono ?_
  rintro e w1 ⟨rfl, hb1, hf⟩
  have z0 := HFR.out _ hf
  have c0 := HCL.out _ hf
  obtain ⟨r1, r2, r3⟩ := HER.out _ hb1 hf
  clear HD HER HFR HCL hb1 hf
  have HR := Lib.hid r1
  have HR2 := Lib.hid r2
  have HR3 := Lib.hid (r3 _ hmem)
  clear r1 r2 r3
  go_wp2_with fail
  go_ret
  exact ⟨rfl, HR.out, HR2.out, HR3.out⟩

theorem Net.far_row {w : World} {F : Nat → Bool} {g : Nat} {x : NetV} (h : Net w F g x) (i : Nat) (u : Value) : (w.setCell ⟨g, i, none⟩ u).ownsRow 0 29 1 (.slice x.A x.n x.c) x.n (x.l.map BSV.val) ∧ (∀ y ∈ x.l, OwnB (w.setCell ⟨g, i, none⟩ u) y) ∧ Fr F w (w.setCell ⟨g, i, none⟩ u) :=
  ⟨own_far' h.row (own_blk_ne h.row h.blk (by decide)) u, fun y hy => (h.el y hy).far (own_blk_ne (h.el y hy).own h.blk (by decide)) u, Fr.setCell w (p := ⟨g, i, none⟩) h.gF u⟩
theorem Net.setLost {w : World} {F : Nat → Bool} {g : Nat} {x : NetV} (h : Net w F g x) (v : Int) (h0 : 0 ≤ v ∧ v ≤ 1000000000) : Net (w.setCell ⟨g, 3, none⟩ (.int .i64 v)) F g { x with lost := v } := by
  obtain ⟨h1, h2, h3⟩ := h.far_row 3 (.int .i64 v)
  exact ⟨h.blk.set_ 3 _, h1, h2, h.ap, h.few, h.gF, h.rF, h.eF, fun k hk => Nat.lt_of_lt_of_le (h.ub k hk) h3.size, h.s0, h.t0, h0⟩
theorem Net.setTaken {w : World} {F : Nat → Bool} {g : Nat} {x : NetV} (h : Net w F g x) (v : Int) (h0 : 0 ≤ v ∧ v ≤ 1000000000) : Net (w.setCell ⟨g, 2, none⟩ (.int .i64 v)) F g { x with taken := v } := by
  obtain ⟨h1, h2, h3⟩ := h.far_row 2 (.int .i64 v)
  exact ⟨h.blk.set_ 2 _, h1, h2, h.ap, h.few, h.gF, h.rF, h.eF, fun k hk => Nat.lt_of_lt_of_le (h.ub k hk) h3.size, h.s0, h0, h.l0⟩
theorem Net.setSent {w : World} {F : Nat → Bool} {g : Nat} {x : NetV} (h : Net w F g x) (v : Int) (h0 : 0 ≤ v ∧ v ≤ 1000000000) : Net (w.setCell ⟨g, 1, none⟩ (.int .i64 v)) F g { x with sent := v } := by
  obtain ⟨h1, h2, h3⟩ := h.far_row 1 (.int .i64 v)
  exact ⟨h.blk.set_ 1 _, h1, h2, h.ap, h.few, h.gF, h.rF, h.eF, fun k hk => Nat.lt_of_lt_of_le (h.ub k hk) h3.size, h0, h.t0, h.l0⟩
/-- a net of which one was lost -/
def NetV.drop (x : NetV) (i : Int) : NetV := if thereB x.n i = true then { x.erase i.toNat with lost := x.lost + 1 } else x
def thereC (n : Nat) (i : Int) : Int := if thereB n i = true then 0 else 1
theorem there_cases (n : Nat) (i : Int) : (thereB n i = true ∧ thereC n i = 0 ∧ ∃ k : Nat, i = k ∧ k < n) ∨ (thereB n i = false ∧ thereC n i = 1) := by
  by_cases h : thereB n i = true
  · refine .inl ⟨h, by unfold thereC; rw [if_pos h], i.toNat, ?_⟩
    unfold thereB at h
    simp only [Bool.and_eq_true, decide_eq_true_eq] at h
    exact ⟨by omega, by omega⟩
  · have h' : thereB n i = false := by simpa using h
    exact .inr ⟨h', by unfold thereC; rw [if_neg h]⟩
set_option maxRecDepth 100000 in
set_option maxHeartbeats 800000 in
theorem net_Drop (F : Nat → Bool) (g : Nat) (x : NetV) (i : Int) (w : World) (h : Net w F g x) (hb : x.lost + 1 ≤ 1000000000) :
    Calls Try.prog 31 #[.pointer (some ⟨g, 0, none⟩), .int .i64 i] w fun e w' => e = .returned (.int .i64 (thereC x.n i)) ∧ Net w' F g (x.drop i) ∧ Fr F w w' := by
  have HT := Lib.hid (net_there F g x i w h)
  rcases there_cases x.n i with ⟨h1, h2, k, rfl, hk⟩ | ⟨h1, h2⟩
  · have hkl : k < x.l.length := by rw [h.len]; exact hk
    have HR := Lib.hid (net_remove F g x k w h hk hkl)
    have HX : Hid (x.drop k = { x.erase k with lost := x.lost + 1 }) := Lib.hid (by unfold NetV.drop; rw [if_pos h1]; simp)
    rw [h1] at HT
    rw [h2]
    have hl0 := h.l0
    clear h h1 h2
    go_enter Try.func31, Try.ntmps31
    go_wp2_with fail
    refine HT.out.mono ?_
    rintro e w1 ⟨rfl, rfl⟩
    go_wp2_with fail
    refine HR.out.mono ?_
    rintro e w2 ⟨rfl, hN, hF, _⟩
    have HA := Lib.hid (atom_Add g 3 x.lost 1 w2 hN.cells.2.2.2 (hN.blk.frozen 3) (by omega) (by omega))
    have HN := Lib.hid (hN.setLost (x.lost + 1) (by omega))
    have HF := Lib.hid (hF.trans (hN.far_row 3 (.int .i64 (x.lost + 1))).2.2)
    clear hN hF HT HR
    go_wp2_with fail
    refine HA.out.mono ?_
    rintro e w3 ⟨rfl, rfl⟩
    go_wp2_with fail
    go_ret
    exact ⟨rfl, by rw [HX.out]; exact HN.out, HF.out⟩
  · have HX : Hid (x.drop i = x) := Lib.hid (by unfold NetV.drop; rw [if_neg (by rw [h1]; simp)])
    have HH := Lib.hid h
    rw [h1] at HT
    rw [h2]
    clear h h1 h2
    go_enter Try.func31, Try.ntmps31
    go_wp2_with fail
    refine HT.out.mono ?_
    rintro e w1 ⟨rfl, rfl⟩
    go_wp2_with fail
    go_ret
    exact ⟨rfl, by rw [HX.out]; exact HH.out, Fr.refl _ _⟩
/-- the bytes at a place -/
def NetV.at (x : NetV) (i : Int) : List UInt8 := if thereB x.n i = true then ((x.l[i.toNat]?).map BSV.b).getD [] else []
set_option maxRecDepth 100000 in
set_option maxHeartbeats 800000 in
theorem net_Bytes (F : Nat → Bool) (g : Nat) (x : NetV) (i : Int) (w : World) (h : Net w F g x) :
    Calls Try.prog 40 #[.pointer (some ⟨g, 0, none⟩), .int .i64 i] w fun e w' => ∃ v, e = .returned v ∧ w'.ownsRow w.heap.size 5 1 v (x.at i).length ((x.at i).map bv) ∧ Ext w w' := by
  have HT := Lib.hid (net_there F g x i w h)
  rcases there_cases x.n i with ⟨h1, h2, k, rfl, hk⟩ | ⟨h1, h2⟩
  · have hkl : k < x.l.length := by rw [h.len]; exact hk
    obtain ⟨d0, _⟩ := h.cells
    obtain ⟨b, hA, hc⟩ := h.row_cell hk
    have hoy := h.el x.l[k] (List.getElem_mem _)
    have HY : Hid (x.at k = x.l[k].b) := Lib.hid (by unfold NetV.at; rw [if_pos h1, Int.toNat_natCast, List.getElem?_eq_getElem hkl]; rfl)
    generalize x.l[k] = y at *
    generalize x.at k = bb at *
    have HC := Lib.hid (u8_Clone y.A y.len y.cap y.b w hoy.bs (by have := hoy.few; omega))
    have hyl : y.b.length = y.len := hoy.bs.len
    rw [h1] at HT
    rw [hA] at d0
    have hi0 : (0 : Int) ≤ k := by omega
    have hi1 : (k : Int) < x.n := by omega
    have HL := Lib.hid hyl
    unfold BSV.val at hc
    clear h h1 h2 hA hoy hyl
    go_enter Try.func40, Try.ntmps40
    go_wp2_with fail
    refine HT.out.mono ?_
    rintro e w1 ⟨rfl, rfl⟩
    go_wp2_with fail
    refine HC.out.mono ?_
    rintro e w2 ⟨v2, rfl, hown2, x2⟩
    go_wp2_with fail
    go_ret
    exact ⟨v2, rfl, by rw [HY.out, HL.out]; exact hown2, x2⟩
  · rw [h1] at HT
    have HY : Hid (x.at i = []) := Lib.hid (by unfold NetV.at; rw [if_neg (by rw [h1]; simp)])
    clear h h1 h2
    go_enter Try.func40, Try.ntmps40
    go_wp2_with fail
    refine HT.out.mono ?_
    rintro e w1 ⟨rfl, rfl⟩
    go_wp2_with fail
    go_ret
    exact ⟨_, rfl, by rw [HY.out]; exact World.ownsRow_nil _ _ _ _, Ext.refl _⟩
end Go.Proofs.Ytcoaofaofmbfbaa
