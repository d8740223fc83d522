/- The walk of the law TlvLong. -/
import Derived.Test.YtjfohlnkdagjcaaTlvS
namespace Go.Proofs.Ytjfohlnkdagjcaa
open Go.RowKit

/-- how many bytes a field has, as the law counts them -/
def flen (f : FV) : Nat := (if 16 ≤ f.num then 1 else 0) + 1 + (if f.wire = 0 then (vput f.n).length else (vput f.len).length + f.len)
def flens (l : List FV) : Nat := (l.map flen).sum
theorem flen_le {f : FV} {w : World} (hk : f.Ok w) (hl : f.len ≤ 17000) : flen f ≤ 17012 := by
  unfold flen
  have h2 : (vput f.n).length ≤ 10 := by rw [vput_len]; exact hk.u.size
  have h3 : (vput f.len).length ≤ 10 := by rw [vput_len]; exact U64.size (by unfold U64; omega)
  split <;> split <;> omega
theorem flen_eq {f : FV} {w : World} (ha : aloneB f = true) (hk : f.Ok w) : fsize f = flen f := by
  obtain ⟨num, wire, h1, h2, hm⟩ := alone_tag ha
  have hl := hk.bs.len
  unfold fsize flen fput
  rw [h1, h2, Int.toNat_natCast, Int.toNat_natCast, List.length_append, tag_len hm]
  have e1 : (if num < 16 then 1 else 2) = (if (16 : Int) ≤ (num : Int) then 1 else 0) + 1 := by
    by_cases h : num < 16
    · rw [if_pos h, if_neg (by omega)]
    · rw [if_neg h, if_pos (by omega)]
  rw [e1]
  generalize (if (16 : Int) ≤ (num : Int) then 1 else 0) = z
  by_cases hw : wire = 0
  · rw [if_pos hw, if_pos (by omega)]
  · rw [if_neg hw, if_neg (by omega), List.length_append, hl]
theorem flens_take (l : List FV) (j : Nat) (h : j < l.length) : flens (l.take (j + 1)) = flens (l.take j) + flen l[j] := by
  unfold flens; rw [List.take_succ_eq_append_getElem h, List.map_append, List.sum_append]; simp
theorem fsum_flens {w : World} : ∀ (l : List FV), (∀ f ∈ l, aloneB f = true) → (∀ f ∈ l, f.Ok w) → fsum l = flens l
  | [], _, _ => rfl
  | f :: r, h1, h2 => by
    have ih := fsum_flens r (fun x hx => h1 x (List.mem_cons_of_mem _ hx)) (fun x hx => h2 x (List.mem_cons_of_mem _ hx))
    have := flen_eq (h1 f (List.mem_cons_self ..)) (h2 f (List.mem_cons_self ..))
    unfold fsum flens at ih ⊢
    rw [List.map_cons, List.sum_cons, List.map_cons, List.sum_cons, ih, this]
theorem mayScan_vals : ∀ (p : Option FV) (size : Nat) (l : List FV), mayScan p size l = 0 ∨ mayScan p size l = 1 ∨ mayScan p size l = 5 ∨ mayScan p size l = 4
  | p, size, [] => by rw [mayScan_nil]; split <;> simp
  | p, size, f :: r => by
    rw [mayScan_cons]
    split
    · simp
    · split
      · simp
      · split
        · simp
        · exact mayScan_vals _ _ r
/-- why a row may not be -/
theorem fmay_no {w : World} {l : List FV} (hok : ∀ f ∈ l, f.Ok w) (h : fmay l ≠ 0) : fmay l = 1 ∨ fmay l = 5 ∨ fmay l = 4 ∧ (16384 < flens l ∨ 1 < l.length) := by
  rcases mayScan_vals none 0 l with h1 | h1 | h1 | h1
  · exact absurd h1 h
  · exact .inl h1
  · exact .inr (.inl h1)
  · refine .inr (.inr ⟨h1, ?_⟩)
    match l with
    | [] => simp [mayScan_nil] at h1
    | [f] =>
      left
      rw [mayScan_cons] at h1
      have hk := hok f (List.mem_cons_self ..)
      by_cases ha : aloneB f = false
      · rw [if_pos ha] at h1; cases h1
      · have ha' : aloneB f = true := by simpa using ha
        have he := flen_eq ha' hk
        have e : flens [f] = flen f := by simp [flens]
        rw [if_neg ha, if_neg (by simp [fallsB])] at h1
        by_cases hl : 16384 < f.len
        · rw [e, ← he]
          obtain ⟨num, wire, g1, g2, hm⟩ := alone_tag ha'
          have h0 : f.wire ≠ 0 := by
            intro h0
            unfold aloneB at ha'
            by_cases k1 : f.num < 1
            · rw [if_pos k1] at ha'; cases ha'
            · rw [if_neg k1] at ha'
              by_cases k2 : 1000 < f.num
              · rw [if_pos k2] at ha'; cases ha'
              · rw [if_neg k2, if_pos h0] at ha'
                have := eq_of_beq ha'
                omega
          have : flen f = (if 16 ≤ f.num then 1 else 0) + 1 + ((vput f.len).length + f.len) := by unfold flen; rw [if_neg h0]
          omega
        · rw [if_neg hl, mayScan_nil] at h1
          rw [e, ← he]
          by_cases hs : 16384 < 0 + fsize f
          · omega
          · rw [if_neg hs] at h1; cases h1
    | f :: g :: r => right; simp

theorem fewL_ok {w : World} {l : List FV} (h : ∀ f ∈ l, f.Ok w) : ∀ f ∈ fewL l, f.Ok w ∧ f.len ≤ 17000 := by
  intro f hf
  unfold fewL at hf
  obtain ⟨i, hi, rfl⟩ := List.mem_mapIdx.1 hf
  have hk := h _ (List.mem_of_mem_take (List.getElem_mem hi))
  unfold fewAt
  split
  · exact ⟨cutF_ok hk, by unfold cutF; split <;> simp_all⟩
  · exact ⟨cutF_ok hk, by unfold cutF; split <;> simp_all; omega⟩

theorem flens_bound {w : World} : ∀ (l : List FV) (j : Nat), (∀ f ∈ l, f.Ok w ∧ f.len ≤ 17000) → flens (l.take j) ≤ j * 17012
  | [], j, _ => by simp [flens]
  | f :: r, 0, _ => by simp [flens]
  | f :: r, j + 1, h => by
    have ih := flens_bound r j (fun x hx => h x (List.mem_cons_of_mem _ hx))
    have := flen_le (h f (List.mem_cons_self ..)).1 (h f (List.mem_cons_self ..)).2
    unfold flens at ih ⊢
    rw [List.take_succ_cons, List.map_cons, List.sum_cons, Nat.succ_mul]
    omega
theorem tlv_Put_any (A : Option Addr) (n c : Nat) (l : List FV) (w : World) (hf : Fs w A n l) (hn : n ≤ 20000) :
    Calls Try.prog 30 #[.slice A n c] w fun e w' => ∃ A' k c', e = .returned (.tuple #[.slice A' k c', .int .i64 (fmay l)]) ∧ k = (if fmay l = 0 then fsum l else 0) ∧ Ext w w' := by
  by_cases h : fmay l = 0
  · refine (tlv_Put_ok A n c l w hf hn h).mono ?_
    rintro e w' ⟨v, rfl, hown, hx⟩
    obtain ⟨A', c', rfl, _⟩ := own_form hown
    exact ⟨A', _, c', by rw [h]; rfl, by rw [if_pos h, rput_len], hx⟩
  · refine (tlv_Put_no A n c l w hf hn h).mono ?_
    rintro e w' ⟨rfl, hx⟩
    exact ⟨none, 0, 0, rfl, by rw [if_neg h], hx⟩

set_option maxRecDepth 100000 in
set_option maxHeartbeats 1600000 in
theorem law_TlvLong (A : Option Addr) (n c : Nat) (l : List FV) (w : World) (hf : Fs w A n l) (hnc : n ≤ c) (hcm : c ≤ maxLen) :
    Calls Try.prog 8 #[.slice A n c] w fun e w' => e = .returned (.bool true) ∧ Ext w w' := by
  go_enter Try.func8, Try.ntmps8
  go_wp2_with fail
  refine (law03_shown _).mono ?_
  rintro e w1 ⟨rfl, x1⟩
  go_wp2_with fail
  refine (law03_few A n c l _ (hf.ext x1) hnc hcm).mono ?_
  rintro e w2 ⟨v, rfl, hown, x2⟩
  obtain ⟨A2, c2, rfl, hc2⟩ := own_form hown
  have hx2 : Ext w w2 := x1.trans x2
  have hok := fewL_ok (fun f hf' => (hf.ok f hf').ext hx2)
  have hfs : Fs w2 A2 (min 60 n) (fewL l) := Fs.of_own hown fun f hf' => (hok f hf').1
  have hm60 : min 60 n ≤ 60 := by omega
  generalize min 60 n = m at *
  generalize fewL l = L at *
  clear hf hnc hcm hown x1 x2
  have hlen := hfs.len
  have Hok := Lib.hid hok; clear hok
  have hno := fmay_no (fun f hf' => (Hok.out f hf').1)
  have hfl := fun j => flens_bound L j (fun f hf' => Hok.out f hf')
  have hfs0 : fmay L = 0 → fsum L = flens L ∧ fsum L ≤ 16384 := fun h => ⟨fsum_flens L (fun f hf' => ((fmay_ok h).1 f hf').1) (fun f hf' => (Hok.out f hf').1), (fmay_ok h).2⟩
  have HP := Lib.hid (tlv_Put_any _ _ c2 _ _ hfs (by omega))
  have HE : Hid (fmay L = 0 ∧ fsum L = flens L ∧ fsum L ≤ 16384 ∨ fmay L = 1 ∨ fmay L = 5 ∨ fmay L = 4 ∧ (16384 < flens L ∨ 1 < L.length)) := Lib.hid (by
    by_cases h : fmay L = 0
    · exact .inl ⟨h, hfs0 h⟩
    · exact .inr (hno h))
  have Hfl := Lib.hid hfl
  clear hno hfl hfs0 hc2
  go_wp2_with fail
  refine HP.out.mono ?_
  clear HP
  rintro e w3 ⟨A3, k3, c3, rfl, hk3, x3⟩
  have Hk3 := Lib.hid hk3; clear hk3
  generalize fmay L = E at *
  have hx3 : Ext w w3 := hx2.trans x3
  have hfs3 := hfs.ext x3
  clear x3 hfs hx2
  go_wp2
  go_loopw [6, 7] (fun s i wr => ∃ j : Nat, i = .int .i64 j ∧ j ≤ m ∧ s = .int .i64 (flens (L.take j)) ∧ Ext w3 wr) (fun _ i _ => m - (intOf i).toNat)
  case atStart => exact ⟨0, rfl, by omega, rfl, Ext.refl w3⟩
  case round =>
    obtain ⟨j, rfl, hj, rfl, hx⟩ := hrel
    by_cases hjm : j < m
    · have hsn := flens_take L j (by omega)
      have hS := Hfl.out j
      obtain ⟨b, off, rfl, d0, d1, d2, d3⟩ := (hfs3.ext hx).at_ hjm
      have hok := (hfs3.ext hx).ok L[j] (List.getElem_mem _)
      have hl17 := (Hok.out L[j] (List.getElem_mem _)).2
      generalize L[j] = f at *
      generalize flens (L.take j) = S at *
      have hu := hok.u
      have hbs := hok.bs
      obtain ⟨num, wire, fn, fA, flen_, fcap, fb⟩ := f
      unfold flen at hsn
      dsimp only at d0 d1 d2 d3 hl17 hsn hu hbs
      clear hok
      have hul : U64 flen_ := by unfold U64; omega
      have hQ1 : (vput fn).length ≤ 10 := by rw [vput_len]; exact hu.size
      have hQ2 : (vput flen_).length ≤ 10 := by rw [vput_len]; exact hul.size
      have HQ1 := Lib.hid (fun w => ref01_Put fn hu w)
      have HQ2 := Lib.hid (fun w => ref01_Put flen_ hul w)
      have hwl : IntKind.u64.wrap (flen_ : Int) = flen_ := hul.wrap
      have hlt := World.block_lt_of_cell? _ _ d0
      generalize vput fn = V1 at *
      generalize vput flen_ = V2 at *
      clear hu hul
      by_cases h16 : 16 ≤ num
      · rw [if_pos h16] at hsn
        by_cases hw : wire = 0
        · subst hw
          rw [if_pos rfl] at hsn
          have Hsn := Lib.hid hsn; clear hsn hwl
          go_wp2_with fail
          refine (HQ1.out _).mono ?_
          rintro e w4 ⟨v4, rfl, hown4, y4⟩
          obtain ⟨A4, k4, rfl, _⟩ := own_form hown4
          go_wp2
          go_roundw
          case rel => exact ⟨j + 1, val_int (by omega), by omega, val_int (by rw [Hsn.out]; omega), (hx.alloc _).trans y4⟩
          case measure => simp [intOf]; omega
        · rw [if_neg hw] at hsn
          have hw' := beq_f hw
          have Hsn := Lib.hid hsn; clear hsn hw
          go_wp2_with fail
          have hsz : V2.length ≤ 10 := hQ2
          have e1 : IntKind.i64.wrap ((S : Int) + 1 + 1) = (S : Int) + 1 + 1 := IntWalk.i64_in _ (by omega)
          have e2 : IntKind.i64.wrap ((S : Int) + 1 + 1 + V2.length) = (S : Int) + 1 + 1 + V2.length := IntWalk.i64_in _ (by omega)
          have e3 : IntKind.i64.wrap ((S : Int) + 1 + 1 + V2.length + flen_) = (S : Int) + 1 + 1 + V2.length + flen_ := IntWalk.i64_in _ (by omega)
          go_region_held3 (fun w' => w'.cell? ⟨wr.heap.size, 3, none⟩ = some (.slice fA flen_ fcap))
            (first | go_keep | (exact y4.cell (by assumption)))
            ((go_at_call 26; refine (HQ2.out _).mono ?_; rintro e w4 ⟨v4, rfl, hown4, y4⟩; obtain ⟨A4, k4, rfl, _⟩ := own_form hown4))
          clear e1 e2 e3
          go_wp2
          go_roundw
          case rel => exact ⟨j + 1, val_int (by omega), by omega, val_int (by rw [Hsn.out]; omega), ((hx.alloc _).drew).trans y4⟩
          case measure => simp [intOf]; omega
      · rw [if_neg h16] at hsn
        by_cases hw : wire = 0
        · subst hw
          rw [if_pos rfl] at hsn
          have Hsn := Lib.hid hsn; clear hsn hwl
          go_wp2_with fail
          refine (HQ1.out _).mono ?_
          rintro e w4 ⟨v4, rfl, hown4, y4⟩
          obtain ⟨A4, k4, rfl, _⟩ := own_form hown4
          go_wp2
          go_roundw
          case rel => exact ⟨j + 1, val_int (by omega), by omega, val_int (by rw [Hsn.out]; omega), (hx.alloc _).trans y4⟩
          case measure => simp [intOf]; omega
        · rw [if_neg hw] at hsn
          have hw' := beq_f hw
          have Hsn := Lib.hid hsn; clear hsn hw
          go_wp2_with fail
          have hsz : V2.length ≤ 10 := hQ2
          have e1 : IntKind.i64.wrap ((S : Int) + 1) = (S : Int) + 1 := IntWalk.i64_in _ (by omega)
          have e2 : IntKind.i64.wrap ((S : Int) + 1 + V2.length) = (S : Int) + 1 + V2.length := IntWalk.i64_in _ (by omega)
          have e3 : IntKind.i64.wrap ((S : Int) + 1 + V2.length + flen_) = (S : Int) + 1 + V2.length + flen_ := IntWalk.i64_in _ (by omega)
          go_region_held3 (fun w' => w'.cell? ⟨wr.heap.size, 3, none⟩ = some (.slice fA flen_ fcap))
            (first | go_keep | (exact y4.cell (by assumption)))
            ((go_at_call 26; refine (HQ2.out _).mono ?_; rintro e w4 ⟨v4, rfl, hown4, y4⟩; obtain ⟨A4, k4, rfl, _⟩ := own_form hown4))
          clear e1 e2 e3
          go_wp2
          go_roundw
          case rel => exact ⟨j + 1, val_int (by omega), by omega, val_int (by rw [Hsn.out]; omega), ((hx.alloc _).drew).trans y4⟩
          case measure => simp [intOf]; omega
    · obtain rfl : j = m := by omega
      rw [List.take_of_length_le (by omega)]
      have hS := Hfl.out j
      rw [List.take_of_length_le (by omega)] at hS
      have hE := HE.out
      rw [hlen] at hE
      have hk := Hk3.out
      have hx' := hx3.trans hx
      clear hx3 hx
      generalize flens L = S at *
      generalize fsum L = S' at *
      rcases hE with ⟨rfl, rfl, hS2⟩ | rfl | rfl | ⟨rfl, hS2⟩
      · rw [if_pos rfl] at hk
        subst hk
        clear HE Hk3
        go_wp2
        go_ret
        exact ⟨congrArg (fun b => Ending.returned (.bool b)) (show decide ((k3 : Int) ≤ 16384) = true from dec_t (by omega)), hx'⟩
      · rw [if_neg (by omega)] at hk
        subst hk
        clear HE Hk3
        go_wp2
        go_ret
        exact ⟨rfl, hx'⟩
      · rw [if_neg (by omega)] at hk
        subst hk
        clear HE Hk3
        go_wp2
        go_ret
        exact ⟨rfl, hx'⟩
      · rw [if_neg (by omega)] at hk
        subst hk
        clear HE Hk3
        have hb : (decide (16384 < (S : Int)) || decide (1 < (j : Int))) = true := by simp; omega
        have Hb := Lib.hid hb; clear hb
        by_cases hs : 16384 < S
        · go_wp2
          go_ret
          exact ⟨congrArg (fun b => Ending.returned (.bool b)) (by first | rfl | exact Hb.out), hx'⟩
        · have hs1 : 1 < j := by omega
          go_wp2
          go_ret
          exact ⟨congrArg (fun b => Ending.returned (.bool b)) (by first | rfl | exact Hb.out), hx'⟩
end Go.Proofs.Ytjfohlnkdagjcaa
