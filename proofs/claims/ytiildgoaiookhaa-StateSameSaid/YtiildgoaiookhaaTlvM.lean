/- The walks of May of layer 3. -/
import Derived.Test.YtiildgoaiookhaaTlvR
namespace Go.Proofs.Ytiildgoaiookhaa
open Go.RowKit

/-- how many bytes a field has -/
def fsize (f : FV) : Nat := (fput f.num.toNat f.wire.toNat f.n f.b).length
/-- may the rest of a row be, behind a field, with so many bytes so far: an error's number -/
def mayScan : Option FV → Nat → List FV → Nat
  | _, size, [] => if 16384 < size then 4 else 0
  | prev, size, f :: r =>
    if aloneB f = false then 1 else if (match prev with | none => false | some a => !risesB a f) = true then 5
    else if 16384 < f.len then 4 else mayScan (some f) (size + fsize f) r
/-- does it fall behind what stands ahead -/
def fallsB : Option FV → FV → Bool
  | none, _ => false
  | some a, f => !risesB a f
theorem mayScan_cons (p : Option FV) (size : Nat) (f : FV) (r : List FV) : mayScan p size (f :: r) = if aloneB f = false then 1 else if fallsB p f = true then 5 else if 16384 < f.len then 4 else mayScan (some f) (size + fsize f) r := by
  cases p <;> rfl
theorem mayScan_nil (p : Option FV) (size : Nat) : mayScan p size [] = if 16384 < size then 4 else 0 := by cases p <;> rfl
/-- may a row be -/
def fmay (l : List FV) : Nat := mayScan none 0 l

theorem alone_tag {f : FV} (h : aloneB f = true) : ∃ num wire : Nat, f.num = num ∧ f.wire = wire ∧ TagMay num wire := by
  unfold aloneB at h
  by_cases h1 : f.num < 1
  · rw [if_pos h1] at h; cases h
  · rw [if_neg h1] at h
    by_cases h2 : 1000 < f.num
    · rw [if_pos h2] at h; cases h
    · rw [if_neg h2] at h
      by_cases h3 : f.wire = 0
      · exact ⟨f.num.toNat, 0, by omega, h3, by omega, by omega, .inl rfl⟩
      · rw [if_neg h3] at h
        by_cases h4 : f.wire = 2
        · exact ⟨f.num.toNat, 2, by omega, h4, by omega, by omega, .inr rfl⟩
        · rw [if_neg h4] at h; cases h

theorem fput_len_le {num wire n : Nat} {b : List UInt8} (hm : TagMay num wire) (hn : U64 n) (hb : b.length ≤ 16384) : (fput num wire n b).length ≤ 16396 := by
  unfold fput
  rw [List.length_append]
  have h1 : (vput (8 * num + wire)).length ≤ 2 := by rw [tag_len hm]; split <;> omega
  have h2 : (vput n).length ≤ 10 := by rw [vput_len]; exact hn.size
  have h3 : (vput b.length).length ≤ 10 := by rw [vput_len]; exact U64.size (by unfold U64; omega)
  split
  · omega
  · rw [List.length_append]; omega

/-- tlv.put of a field that may be alone -/
theorem tlv_put_f (f : FV) (w : World) (ha : aloneB f = true) (hk : f.Ok w) (hl : f.len ≤ 16384) :
    Calls Try.prog 98 #[f.val] w fun e w' => ∃ v, e = .returned v ∧ w'.ownsRow w.heap.size 5 1 v (fsize f) ((fput f.num.toNat f.wire.toNat f.n f.b).map bv) ∧ Ext w w' := by
  obtain ⟨num, wire, h1, h2, hm⟩ := alone_tag ha
  have := tlv_put num wire f.n f.A f.len f.cap f.b w hm hk.u hk.bs (by omega)
  unfold FV.val fsize
  rw [h1, h2]
  exact this
theorem ref03_one_f (f : FV) (w : World) (ha : aloneB f = true) (hk : f.Ok w) (hl : f.len ≤ 16384) :
    Calls Try.prog 101 #[f.val] w fun e w' => ∃ v, e = .returned v ∧ w'.ownsRow w.heap.size 5 1 v (fsize f) ((fput f.num.toNat f.wire.toNat f.n f.b).map bv) ∧ Ext w w' := by
  obtain ⟨num, wire, h1, h2, hm⟩ := alone_tag ha
  have := ref03_one num wire f.n f.A f.len f.cap f.b w hm hk.u hk.bs (by omega)
  unfold FV.val fsize
  rw [h1, h2]
  exact this
theorem fsize_le (f : FV) {w : World} (ha : aloneB f = true) (hk : f.Ok w) (hl : f.len ≤ 16384) : fsize f ≤ 16396 := by
  obtain ⟨num, wire, h1, h2, hm⟩ := alone_tag ha
  unfold fsize
  rw [h1, h2]
  exact fput_len_le hm hk.u (by rw [hk.bs.len]; omega)

set_option maxRecDepth 100000 in
set_option maxHeartbeats 1600000 in
theorem tlv_May (A : Option Addr) (n c : Nat) (l : List FV) (w : World) (hf : Fs w A n l) (hn : n ≤ 20000) :
    Calls Try.prog 97 #[.slice A n c] w fun e w' => e = .returned (.int .i64 (fmay l)) ∧ Ext w w' := by
  have hlen := hf.len
  go_enter Try.func97, Try.ntmps97
  go_wp2
  go_loopw [3, 8] (fun s i wr => ∃ (j size : Nat), i = .int .i64 j ∧ s = .int .i64 size ∧ j ≤ n ∧ size ≤ j * 16396 ∧ fmay l = mayScan (if j = 0 then none else l[j - 1]?) size (l.drop j) ∧ Ext w wr) (fun _ i _ => n - (intOf i).toNat)
  case atStart => exact ⟨0, 0, rfl, rfl, by omega, by omega, rfl, Ext.refl w⟩
  case round =>
    obtain ⟨j, size, rfl, rfl, hj, hsz, hm, hx⟩ := hrel
    by_cases hjn : j < n
    · have hd : l.drop j = l[j] :: l.drop (j + 1) := List.drop_eq_getElem_cons (by omega)
      rw [hd, mayScan_cons] at hm
      obtain ⟨b, off, rfl, d0, d1, d2, d3⟩ := (hf.ext hx).at_ hjn
      have hok := (hf.ext hx).ok l[j] (List.getElem_mem _)
      generalize hfj : l[j] = f at *
      have x1 : Ext wr (wr.alloc (.cells #[.int .i64 f.num, .int .i64 f.wire, .int .u64 f.n, .slice f.A f.len f.cap] 96)) := (Ext.refl wr).alloc _
      have Hm := Lib.hid hm; clear hm
      have Hfj := Lib.hid hfj; clear hfj
      have Hd := Lib.hid hd; clear hd
      have al := tlv_alone f (wr.alloc (.cells #[.int .i64 f.num, .int .i64 f.wire, .int .u64 f.n, .slice f.A f.len f.cap] 96))
      rcases ha : aloneB f with _ | _
      · rw [ha] at al
        have HA := Lib.hid al; clear al
        have Ha := Lib.hid ha; clear ha
        go_wp2_with fail
        refine HA.out.mono ?_
        rintro e w1 ⟨rfl, y1⟩
        go_wp2
        go_ret
        exact ⟨by rw [Hm.out, if_pos Ha.out]; rfl, hx.trans (x1.trans y1)⟩
      · rw [ha] at al
        have HA := Lib.hid al; clear al
        have Ha := Lib.hid ha; clear ha
        go_wp2_with fail
        refine HA.out.mono ?_
        rintro e w1 ⟨rfl, y1⟩
        have e0 : w1.cell? ⟨wr.heap.size, 0, none⟩ = some (.int .i64 f.num) := y1.cell (by simp)
        have e1 : w1.cell? ⟨wr.heap.size, 1, none⟩ = some (.int .i64 f.wire) := y1.cell (by simp)
        have e2 : w1.cell? ⟨wr.heap.size, 2, none⟩ = some (.int .u64 f.n) := y1.cell (by simp)
        have e3 : w1.cell? ⟨wr.heap.size, 3, none⟩ = some (.slice f.A f.len f.cap) := y1.cell (by simp)
        have hx1 : Ext w w1 := hx.trans (x1.trans y1)
        have hk1 : f.Ok w1 := hok.ext (x1.trans y1)
        clear d0 d1 d2 d3 x1 y1 hok
        rcases Nat.eq_zero_or_pos j with rfl | hj0
        · by_cases hbig : 16384 < f.len
          · have Hm2 : Hid (fmay l = 4) := Lib.hid (by rw [Hm.out, if_neg (by rw [Ha.out]; simp), if_neg (by simp [fallsB]), if_pos hbig])
            go_wp2
            go_quiet (fail)
            go_wp2
            go_ret
            exact ⟨by rw [Hm2.out]; rfl, hx1.drewN _⟩
          · have HPut := Lib.hid (fun w hk => tlv_put_f f w Ha.out hk (by omega))
            have hfs := fsize_le f Ha.out hk1 (by omega)
            go_wp2
            go_quiet (fail)
            go_wp2_with fail
            refine (HPut.out _ (hk1.ext ((Ext.refl w1).drewN _))).mono ?_
            rintro e w2 ⟨v2, rfl, hown2, y2⟩
            obtain ⟨A2, k2, rfl, _⟩ := own_form hown2
            clear hown2
            go_wp2
            go_roundw
            case rel => exact ⟨0 + 1, size + fsize f, val_int (by omega), val_int (by omega), by omega, by rw [Nat.succ_mul]; omega, by rw [Hm.out, if_neg (by rw [Ha.out]; simp), if_neg (by simp [fallsB]), if_neg (by omega)]; simp [Hfj.out, List.getElem?_eq_getElem (show 0 < l.length by omega)], (hx1.drewN _).trans y2⟩
            case measure => simp [intOf]; omega
        · obtain ⟨i, rfl⟩ : ∃ i, j = i + 1 := ⟨j - 1, by omega⟩
          obtain ⟨b', off', hA', p0, p1, p2, p3⟩ := (hf.ext hx1).at_ (show i < n by omega)
          injection hA' with hA'
          injection hA' with hb' ho'
          subst hb' ho'
          have hprev : (if i + 1 = 0 then none else l[i + 1 - 1]?) = some (l[i]'(by omega)) := by rw [if_neg (by omega)]; exact List.getElem?_eq_getElem (by omega)
          have hm2 := Hm.out
          rw [if_neg (by rw [Ha.out]; simp), hprev] at hm2
          have Hm2 := Lib.hid hm2
          clear hm2 hprev Hm
          generalize hgp : l[i]'(by omega) = g at *
          have Hgp := Lib.hid hgp; clear hgp
          have hii : (i : Int) < n := by omega
          have hi0 : (0 : Int) ≤ i := by omega
          have hri := tlv_rises g f
          have hw1 : IntKind.i64.wrap (i : Int) = i := IntWalk.i64_in _ (by omega)
          have hw2 : IntKind.i64.wrap ((i : Int) + 1) = (i : Int) + 1 := IntWalk.i64_in _ (by omega)
          rcases hrv : risesB g f with _ | _
          · rw [hrv] at hri
            have HR := Lib.hid hri; clear hri
            have Hm3 : Hid (fmay l = 5) := Lib.hid (by have h2 := Hm2.out; rw [if_pos (show fallsB (some g) f = true by simp [fallsB, hrv])] at h2; exact h2)
            clear hrv
            go_wp2_with fail
            go_region_held3 (fun w' => w'.cell? ⟨b, off + i * 4, none⟩ = some (.int .i64 g.num) ∧ w'.cell? ⟨b, off + i * 4 + 1, none⟩ = some (.int .i64 g.wire) ∧ w'.cell? ⟨b, off + i * 4 + 2, none⟩ = some (.int .u64 g.n) ∧ w'.cell? ⟨b, off + i * 4 + 3, none⟩ = some (.slice g.A g.len g.cap) ∧
                w'.cell? ⟨wr.heap.size, 0, none⟩ = some (.int .i64 f.num) ∧ w'.cell? ⟨wr.heap.size, 1, none⟩ = some (.int .i64 f.wire) ∧ w'.cell? ⟨wr.heap.size, 2, none⟩ = some (.int .u64 f.n) ∧ w'.cell? ⟨wr.heap.size, 3, none⟩ = some (.slice f.A f.len f.cap))
              (first
                | go_keep
                | (exact ⟨y2.cell p0, y2.cell p1, y2.cell p2, y2.cell p3, y2.cell e0, y2.cell e1, y2.cell e2, y2.cell e3⟩))
              (first
                | (go_at_call 104; refine (HR.out _).mono ?_; rintro e w2 ⟨rfl, y2⟩))
            go_wp2
            go_ret
            exact ⟨by rw [Hm3.out]; rfl, hx1.drew.trans y2⟩
          · rw [hrv] at hri
            have HR := Lib.hid hri; clear hri
            have hm3 := Hm2.out
            rw [if_neg (show ¬ fallsB (some g) f = true by simp [fallsB, hrv])] at hm3
            clear hrv
            by_cases hbig : 16384 < f.len
            · rw [if_pos hbig] at hm3
              have Hm3 := Lib.hid hm3; clear hm3
              go_wp2_with fail
              go_region_held3 (fun w' => w'.cell? ⟨b, off + i * 4, none⟩ = some (.int .i64 g.num) ∧ w'.cell? ⟨b, off + i * 4 + 1, none⟩ = some (.int .i64 g.wire) ∧ w'.cell? ⟨b, off + i * 4 + 2, none⟩ = some (.int .u64 g.n) ∧ w'.cell? ⟨b, off + i * 4 + 3, none⟩ = some (.slice g.A g.len g.cap) ∧
                  w'.cell? ⟨wr.heap.size, 0, none⟩ = some (.int .i64 f.num) ∧ w'.cell? ⟨wr.heap.size, 1, none⟩ = some (.int .i64 f.wire) ∧ w'.cell? ⟨wr.heap.size, 2, none⟩ = some (.int .u64 f.n) ∧ w'.cell? ⟨wr.heap.size, 3, none⟩ = some (.slice f.A f.len f.cap))
                (first
                  | go_keep
                  | (exact ⟨y2.cell p0, y2.cell p1, y2.cell p2, y2.cell p3, y2.cell e0, y2.cell e1, y2.cell e2, y2.cell e3⟩))
                (first
                  | (go_at_call 104; refine (HR.out _).mono ?_; rintro e w2 ⟨rfl, y2⟩))
              go_wp2
              go_ret
              exact ⟨by rw [Hm3.out]; rfl, hx1.drew.trans y2⟩
            · rw [if_neg hbig] at hm3
              have Hm3 := Lib.hid hm3; clear hm3
              have HPut := Lib.hid (fun w hk => tlv_put_f f w Ha.out hk (by omega))
              have hfs := fsize_le f Ha.out hk1 (by omega)
              go_wp2_with fail
              go_region_held3 (fun w' => w'.cell? ⟨b, off + i * 4, none⟩ = some (.int .i64 g.num) ∧ w'.cell? ⟨b, off + i * 4 + 1, none⟩ = some (.int .i64 g.wire) ∧ w'.cell? ⟨b, off + i * 4 + 2, none⟩ = some (.int .u64 g.n) ∧ w'.cell? ⟨b, off + i * 4 + 3, none⟩ = some (.slice g.A g.len g.cap) ∧
                  w'.cell? ⟨wr.heap.size, 0, none⟩ = some (.int .i64 f.num) ∧ w'.cell? ⟨wr.heap.size, 1, none⟩ = some (.int .i64 f.wire) ∧ w'.cell? ⟨wr.heap.size, 2, none⟩ = some (.int .u64 f.n) ∧ w'.cell? ⟨wr.heap.size, 3, none⟩ = some (.slice f.A f.len f.cap))
                (first
                  | go_keep
                  | (exact ⟨y2.cell p0, y2.cell p1, y2.cell p2, y2.cell p3, y2.cell e0, y2.cell e1, y2.cell e2, y2.cell e3⟩))
                (first
                  | (go_at_call 104; refine (HR.out _).mono ?_; rintro e w2 ⟨rfl, y2⟩))
              have q0 := y2.cell e0
              have q1 := y2.cell e1
              have q2 := y2.cell e2
              have q3 := y2.cell e3
              have hx2 := hx1.drew.trans y2
              have hk2 := hk1.ext ((Ext.refl w1).drew.trans y2)
              go_wp2_with fail
              refine (HPut.out _ hk2).mono ?_
              rintro e w3 ⟨v3, rfl, hown3, y3⟩
              obtain ⟨A3, k3, rfl, _⟩ := own_form hown3
              clear hown3
              go_wp2
              go_roundw
              case rel => exact ⟨i + 1 + 1, size + fsize f, val_int (by omega), val_int (by omega), by omega, by rw [Nat.succ_mul]; omega, by rw [Hm3.out]; simp [Hfj.out, List.getElem?_eq_getElem (show i + 1 < l.length by omega)], hx2.trans y3⟩
              case measure => simp [intOf]; omega
    · obtain rfl : j = n := by omega
      rw [List.drop_of_length_le (by omega), mayScan_nil] at hm
      by_cases hs : 16384 < size
      · rw [if_pos hs] at hm
        have Hm := Lib.hid hm; clear hm
        go_wp2
        go_ret
        exact ⟨by rw [Hm.out]; rfl, hx⟩
      · rw [if_neg hs] at hm
        have Hm := Lib.hid hm; clear hm
        go_wp2
        go_ret
        exact ⟨by rw [Hm.out]; rfl, hx⟩
end Go.Proofs.Ytiildgoaiookhaa
