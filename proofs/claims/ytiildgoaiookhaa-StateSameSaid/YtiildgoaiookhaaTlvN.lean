/- The walk of coracleref03.May. -/
import Derived.Test.YtiildgoaiookhaaTlvM
namespace Go.Proofs.Ytiildgoaiookhaa
open Go.RowKit

set_option maxRecDepth 100000 in
set_option maxHeartbeats 800000 in
theorem ref03_falls (a f : FV) (w : World) : Calls Try.prog 122 #[a.val, f.val] w fun e w' => e = .returned (.bool (!risesB a f)) ∧ Ext w w' := by
  obtain ⟨num, wire, n, A, len, cap, b⟩ := f
  obtain ⟨num', wire', n', A', len', cap', b'⟩ := a
  unfold FV.val risesB
  dsimp only
  by_cases h1 : num = num'
  · rw [if_pos h1]
    subst h1
    rcases h2 : (wire' == 2) with _ | _
    · have h2' : (wire' != 2) = true := by simpa using h2
      rw [Bool.and_false]
      go_enter Try.func122, Try.ntmps122
      go_wp2
      go_ret
      exact ⟨rfl, ((Ext.refl w).alloc _).alloc _⟩
    · have h2' : (wire' != 2) = false := by simpa using h2
      rcases h3 : (wire == 2) with _ | _
      · have h3' : (wire != 2) = true := by simpa using h3
        go_enter Try.func122, Try.ntmps122
        go_wp2
        go_ret
        exact ⟨rfl, ((Ext.refl w).alloc _).alloc _⟩
      · have h3' : (wire != 2) = false := by simpa using h3
        go_enter Try.func122, Try.ntmps122
        go_wp2
        go_ret
        exact ⟨rfl, ((Ext.refl w).alloc _).alloc _⟩
  · rw [if_neg h1]
    by_cases h2 : num < num'
    · have h2' : decide (num' < num) = false := dec_f (by omega)
      rw [h2']
      go_enter Try.func122, Try.ntmps122
      go_wp2
      go_ret
      exact ⟨rfl, ((Ext.refl w).alloc _).alloc _⟩
    · have h2' : decide (num' < num) = true := dec_t (by omega)
      have g1 := beq_f h1
      rw [h2']
      clear h1
      go_enter Try.func122, Try.ntmps122
      go_wp2
      go_ret
      exact ⟨rfl, ((Ext.refl w).alloc _).alloc _⟩

/-- how many bytes a row has -/
def fsum (l : List FV) : Nat := (l.map fsize).sum
theorem fsum_snoc (l : List FV) (j : Nat) (h : j < l.length) : fsum (l.take (j + 1)) = fsum (l.take j) + fsize l[j] := by
  unfold fsum; rw [List.take_succ_eq_append_getElem h, List.map_append, List.sum_append]; simp
theorem alone_false {f : FV} (h : aloneB f = false) : terr f.num f.wire = 1 ∨ (terr f.num f.wire = 0 ∧ f.wire = 0 ∧ 0 < f.len) ∨ (terr f.num f.wire = 0 ∧ f.wire = 2 ∧ f.n ≠ 0) := by
  unfold aloneB at h
  unfold terr
  by_cases h1 : f.num < 1
  · exact .inl (if_neg (by omega))
  · rw [if_neg h1] at h
    by_cases h2 : 1000 < f.num
    · exact .inl (if_neg (by omega))
    · rw [if_neg h2] at h
      by_cases h3 : f.wire = 0
      · rw [if_pos h3] at h
        have : (f.len : Int) ≠ 0 := by simpa using h
        exact .inr (.inl ⟨if_pos (by omega), h3, by omega⟩)
      · rw [if_neg h3] at h
        by_cases h4 : f.wire = 2
        · rw [if_pos h4] at h
          have : (f.n : Int) ≠ 0 := by simpa using h
          exact .inr (.inr ⟨if_pos (by omega), h4, by omega⟩)
        · exact .inl (if_neg (by omega))
theorem alone_true {f : FV} (h : aloneB f = true) : terr f.num f.wire = 0 ∧ (f.wire = 0 ∧ f.len = 0 ∨ f.wire = 2 ∧ f.n = 0) := by
  unfold aloneB at h
  unfold terr
  by_cases h1 : f.num < 1
  · rw [if_pos h1] at h; cases h
  · rw [if_neg h1] at h
    by_cases h2 : 1000 < f.num
    · rw [if_pos h2] at h; cases h
    · rw [if_neg h2] at h
      by_cases h3 : f.wire = 0
      · rw [if_pos h3] at h
        have : (f.len : Int) = 0 := by simpa using h
        exact ⟨if_pos (by omega), .inl ⟨h3, by omega⟩⟩
      · rw [if_neg h3] at h
        by_cases h4 : f.wire = 2
        · rw [if_pos h4] at h
          have : (f.n : Int) = 0 := by simpa using h
          exact ⟨if_pos (by omega), .inr ⟨h4, by omega⟩⟩
        · rw [if_neg h4] at h; cases h

set_option maxRecDepth 100000 in
set_option maxHeartbeats 1600000 in
theorem ref03_May (A : Option Addr) (n c : Nat) (l : List FV) (w : World) (hf : Fs w A n l) (hn : n ≤ 1000) :
    Calls Try.prog 100 #[.slice A n c] w fun e w' => e = .returned (.int .i64 (fmay l)) ∧ Ext w w' := by
  have hlen := hf.len
  go_enter Try.func100, Try.ntmps100
  go_wp2
  go_loopw [3] (fun i wr => ∃ (j : Nat), i = .int .i64 j ∧ j ≤ n ∧ fmay l = mayScan (if j = 0 then none else l[j - 1]?) (fsum (l.take j)) (l.drop j) ∧ (∀ k, k < j → ∀ h : k < l.length, aloneB l[k] = true ∧ l[k].len ≤ 16384) ∧ Ext w wr) (fun i _ => n - (intOf i).toNat)
  case atStart => exact ⟨0, rfl, by omega, rfl, fun k hk => absurd hk (by omega), Ext.refl w⟩
  case round =>
    obtain ⟨j, rfl, hj, hm, hall, hx⟩ := hrel
    have Hall := Lib.hid hall; clear hall
    by_cases hjn : j < n
    · have hd : l.drop j = l[j] :: l.drop (j + 1) := List.drop_eq_getElem_cons (by omega)
      rw [hd, mayScan_cons] at hm
      obtain ⟨b, off, rfl, d0, d1, d2, d3⟩ := (hf.ext hx).at_ hjn
      generalize hfj : l[j] = f at *
      obtain ⟨num, wire, fn, fA, flen, fcap, fb⟩ := f
      dsimp only at d0 d1 d2 d3 hm
      have x1 : Ext wr (wr.alloc (.cells #[.int .i64 num, .int .i64 wire, .int .u64 fn, .slice fA flen fcap] 96)) := (Ext.refl wr).alloc _
      have Hm := Lib.hid hm; clear hm
      have Hfj := Lib.hid hfj; clear hfj
      have Hd := Lib.hid hd; clear hd
      have ht := fun w => ref02_Put num wire w
      rcases ha : aloneB ⟨num, wire, fn, fA, flen, fcap, fb⟩ with _ | _
      · have Ha := Lib.hid ha
        have haf := alone_false ha
        dsimp only at haf
        rcases haf with h | ⟨h, hw, hl⟩ | ⟨h, hw, hl⟩
        · rw [h] at ht
          have HT := Lib.hid ht; clear ht ha h
          go_wp2_with fail
          refine (HT.out _).mono ?_
          rintro e w1 ⟨A1, n1, c1, rfl, _, y1⟩
          have e0 : w1.cell? ⟨wr.heap.size, 0, none⟩ = some (.int .i64 num) := y1.cell (by simp)
          have e1 : w1.cell? ⟨wr.heap.size, 1, none⟩ = some (.int .i64 wire) := y1.cell (by simp)
          have e2 : w1.cell? ⟨wr.heap.size, 2, none⟩ = some (.int .u64 fn) := y1.cell (by simp)
          have e3 : w1.cell? ⟨wr.heap.size, 3, none⟩ = some (.slice fA flen fcap) := y1.cell (by simp)
          have hx1 : Ext w w1 := hx.trans (x1.trans y1)
          clear x1 y1
          go_wp2
          go_ret
          exact ⟨by rw [Hm.out, if_pos Ha.out]; rfl, hx1⟩
        · rw [h] at ht
          subst hw
          have HT := Lib.hid ht; clear ht ha h
          go_wp2_with fail
          refine (HT.out _).mono ?_
          rintro e w1 ⟨A1, n1, c1, rfl, _, y1⟩
          have e0 : w1.cell? ⟨wr.heap.size, 0, none⟩ = some (.int .i64 num) := y1.cell (by simp)
          have e1 : w1.cell? ⟨wr.heap.size, 1, none⟩ = some (.int .i64 0) := y1.cell (by simp)
          have e2 : w1.cell? ⟨wr.heap.size, 2, none⟩ = some (.int .u64 fn) := y1.cell (by simp)
          have e3 : w1.cell? ⟨wr.heap.size, 3, none⟩ = some (.slice fA flen fcap) := y1.cell (by simp)
          have hx1 : Ext w w1 := hx.trans (x1.trans y1)
          clear x1 y1
          go_wp2
          go_ret
          exact ⟨by rw [Hm.out, if_pos Ha.out]; rfl, hx1⟩
        · rw [h] at ht
          have hl' : ((fn : Int) != 0) = true := bne_t (by omega)
          have g0 : (wire == 0) = false := beq_f (by omega)
          have g2 := beq_t hw
          have HT := Lib.hid ht; clear ht ha h hl hw
          go_wp2_with fail
          refine (HT.out _).mono ?_
          rintro e w1 ⟨A1, n1, c1, rfl, _, y1⟩
          have e0 : w1.cell? ⟨wr.heap.size, 0, none⟩ = some (.int .i64 num) := y1.cell (by simp)
          have e1 : w1.cell? ⟨wr.heap.size, 1, none⟩ = some (.int .i64 wire) := y1.cell (by simp)
          have e2 : w1.cell? ⟨wr.heap.size, 2, none⟩ = some (.int .u64 fn) := y1.cell (by simp)
          have e3 : w1.cell? ⟨wr.heap.size, 3, none⟩ = some (.slice fA flen fcap) := y1.cell (by simp)
          have hx1 : Ext w w1 := hx.trans (x1.trans y1)
          clear x1 y1
          go_wp2
          go_ret
          exact ⟨by rw [Hm.out, if_pos Ha.out]; rfl, hx1⟩
      · have Ha := Lib.hid ha
        have hat := alone_true ha
        dsimp only at hat
        obtain ⟨h, hcs⟩ := hat
        rw [h] at ht
        have HT := Lib.hid ht; clear ht ha h
        rcases hcs with ⟨hw, hl⟩ | ⟨hw, hl⟩
        · subst hw hl
          go_wp2_with fail
          refine (HT.out _).mono ?_
          rintro e w1 ⟨A1, n1, c1, rfl, _, y1⟩
          have e0 : w1.cell? ⟨wr.heap.size, 0, none⟩ = some (.int .i64 num) := y1.cell (by simp)
          have e1 : w1.cell? ⟨wr.heap.size, 1, none⟩ = some (.int .i64 0) := y1.cell (by simp)
          have e2 : w1.cell? ⟨wr.heap.size, 2, none⟩ = some (.int .u64 fn) := y1.cell (by simp)
          have e3 : w1.cell? ⟨wr.heap.size, 3, none⟩ = some (.slice fA 0 fcap) := y1.cell (by simp)
          have hx1 : Ext w w1 := hx.trans (x1.trans y1)
          clear x1 y1
          go_wp2
          rcases Nat.eq_zero_or_pos j with rfl | hj0
          · by_cases hbig : 16384 < 0
            · exfalso; omega
            · go_quiet (fail)
              go_wp2
              go_roundw
              case rel => exact ⟨0 + 1, val_int (by omega), by omega, by rw [Hm.out, if_neg (by rw [Ha.out]; simp), if_neg (by simp [fallsB]), if_neg hbig, fsum_snoc l 0 (by omega)]; simp [Hfj.out, List.getElem?_eq_getElem (show 0 < l.length by omega)], fun k hk => (by
                rcases Nat.lt_succ_iff_lt_or_eq.1 hk with hk | rfl
                · exact absurd hk (by omega)
                · intro h; rw [Hfj.out]; exact ⟨Ha.out, by dsimp only; omega⟩), hx1.drewN _⟩
              case measure => simp [intOf]; omega
          · obtain ⟨i, rfl⟩ : ∃ i, j = i + 1 := ⟨j - 1, by omega⟩
            obtain ⟨b', off', hA', p0, p1, p2, p3⟩ := (hf.ext hx1).at_ (show i < n by omega)
            injection hA' with hA'
            injection hA' with hb' ho'
            subst hb' ho'
            have hprev : (if i + 1 = 0 then none else l[i + 1 - 1]?) = some (l[i]'(by omega)) := by rw [if_neg (by omega)]; exact List.getElem?_eq_getElem (by omega)
            have hm2 := Hm.out
            rw [if_neg (by rw [Ha.out]; simp), hprev] at hm2
            clear hprev
            generalize hgp : l[i]'(by omega) = g at *
            have Hgp := Lib.hid hgp; clear hgp
            have hii : (i : Int) < n := by omega
            have hi0 : (0 : Int) ≤ i := by omega
            have hri := ref03_falls g ⟨num, 0, fn, fA, 0, fcap, fb⟩
            have hw1 : IntKind.i64.wrap (i : Int) = i := IntWalk.i64_in _ (by omega)
            have hw2 : IntKind.i64.wrap ((i : Int) + 1) = (i : Int) + 1 := IntWalk.i64_in _ (by omega)
            rcases hrv : risesB g ⟨num, 0, fn, fA, 0, fcap, fb⟩ with _ | _
            · rw [hrv] at hri
              have HR := Lib.hid hri; clear hri
              have Hm3 : Hid (fmay l = 5) := Lib.hid (by rw [if_pos (show fallsB (some g) ⟨num, 0, fn, fA, 0, fcap, fb⟩ = true by simp [fallsB, hrv])] at hm2; exact hm2)
              clear hrv hm2
              go_region_held3 (fun w' => w'.cell? ⟨b, off + i * 4, none⟩ = some (.int .i64 g.num) ∧ w'.cell? ⟨b, off + i * 4 + 1, none⟩ = some (.int .i64 g.wire) ∧ w'.cell? ⟨b, off + i * 4 + 2, none⟩ = some (.int .u64 g.n) ∧ w'.cell? ⟨b, off + i * 4 + 3, none⟩ = some (.slice g.A g.len g.cap) ∧
                  w'.cell? ⟨wr.heap.size, 0, none⟩ = some (.int .i64 num) ∧ w'.cell? ⟨wr.heap.size, 1, none⟩ = some (.int .i64 0) ∧ w'.cell? ⟨wr.heap.size, 2, none⟩ = some (.int .u64 fn) ∧ w'.cell? ⟨wr.heap.size, 3, none⟩ = some (.slice fA 0 fcap))
                (first
                  | go_keep
                  | (exact ⟨y2.cell p0, y2.cell p1, y2.cell p2, y2.cell p3, y2.cell e0, y2.cell e1, y2.cell e2, y2.cell e3⟩))
                (first
                  | (go_at_call 122; refine (HR.out _).mono ?_; rintro e w2 ⟨rfl, y2⟩))
              go_wp2
              go_ret
              exact ⟨by rw [Hm3.out]; rfl, hx1.drew.trans y2⟩
            · rw [hrv] at hri
              have HR := Lib.hid hri; clear hri
              rw [if_neg (show ¬ fallsB (some g) ⟨num, 0, fn, fA, 0, fcap, fb⟩ = true by simp [fallsB, hrv])] at hm2
              clear hrv
              by_cases hbig : 16384 < 0
              · exfalso; omega
              · rw [if_neg hbig] at hm2
                have Hm3 := Lib.hid hm2; clear hm2
                go_region_held3 (fun w' => w'.cell? ⟨b, off + i * 4, none⟩ = some (.int .i64 g.num) ∧ w'.cell? ⟨b, off + i * 4 + 1, none⟩ = some (.int .i64 g.wire) ∧ w'.cell? ⟨b, off + i * 4 + 2, none⟩ = some (.int .u64 g.n) ∧ w'.cell? ⟨b, off + i * 4 + 3, none⟩ = some (.slice g.A g.len g.cap) ∧
                    w'.cell? ⟨wr.heap.size, 0, none⟩ = some (.int .i64 num) ∧ w'.cell? ⟨wr.heap.size, 1, none⟩ = some (.int .i64 0) ∧ w'.cell? ⟨wr.heap.size, 2, none⟩ = some (.int .u64 fn) ∧ w'.cell? ⟨wr.heap.size, 3, none⟩ = some (.slice fA 0 fcap))
                  (first
                    | go_keep
                    | (exact ⟨y2.cell p0, y2.cell p1, y2.cell p2, y2.cell p3, y2.cell e0, y2.cell e1, y2.cell e2, y2.cell e3⟩))
                  (first
                    | (go_at_call 122; refine (HR.out _).mono ?_; rintro e w2 ⟨rfl, y2⟩))
                have q3 := y2.cell e3
                go_wp2
                go_roundw
                case rel => exact ⟨i + 1 + 1, val_int (by omega), by omega, by rw [Hm3.out, fsum_snoc l (i + 1) (by omega)]; simp [Hfj.out, List.getElem?_eq_getElem (show i + 1 < l.length by omega)], fun k hk => (by
                  rcases Nat.lt_succ_iff_lt_or_eq.1 hk with hk | rfl
                  · exact Hall.out k hk
                  · intro h; rw [Hfj.out]; exact ⟨Ha.out, by dsimp only; omega⟩), hx1.drew.trans y2⟩
                case measure => simp [intOf]; omega
        · subst hw hl
          go_wp2_with fail
          refine (HT.out _).mono ?_
          rintro e w1 ⟨A1, n1, c1, rfl, _, y1⟩
          have e0 : w1.cell? ⟨wr.heap.size, 0, none⟩ = some (.int .i64 num) := y1.cell (by simp)
          have e1 : w1.cell? ⟨wr.heap.size, 1, none⟩ = some (.int .i64 2) := y1.cell (by simp)
          have e2 : w1.cell? ⟨wr.heap.size, 2, none⟩ = some (.int .u64 0) := y1.cell (by simp)
          have e3 : w1.cell? ⟨wr.heap.size, 3, none⟩ = some (.slice fA flen fcap) := y1.cell (by simp)
          have hx1 : Ext w w1 := hx.trans (x1.trans y1)
          clear x1 y1
          go_wp2
          rcases Nat.eq_zero_or_pos j with rfl | hj0
          · by_cases hbig : 16384 < flen
            · have Hm2 : Hid (fmay l = 4) := Lib.hid (by rw [Hm.out, if_neg (by rw [Ha.out]; simp), if_neg (by simp [fallsB]), if_pos hbig])
              go_quiet (fail)
              go_wp2
              go_ret
              exact ⟨by rw [Hm2.out]; rfl, hx1.drewN _⟩
            · go_quiet (fail)
              go_wp2
              go_roundw
              case rel => exact ⟨0 + 1, val_int (by omega), by omega, by rw [Hm.out, if_neg (by rw [Ha.out]; simp), if_neg (by simp [fallsB]), if_neg hbig, fsum_snoc l 0 (by omega)]; simp [Hfj.out, List.getElem?_eq_getElem (show 0 < l.length by omega)], fun k hk => (by
                rcases Nat.lt_succ_iff_lt_or_eq.1 hk with hk | rfl
                · exact absurd hk (by omega)
                · intro h; rw [Hfj.out]; exact ⟨Ha.out, by dsimp only; omega⟩), hx1.drewN _⟩
              case measure => simp [intOf]; omega
          · obtain ⟨i, rfl⟩ : ∃ i, j = i + 1 := ⟨j - 1, by omega⟩
            obtain ⟨b', off', hA', p0, p1, p2, p3⟩ := (hf.ext hx1).at_ (show i < n by omega)
            injection hA' with hA'
            injection hA' with hb' ho'
            subst hb' ho'
            have hprev : (if i + 1 = 0 then none else l[i + 1 - 1]?) = some (l[i]'(by omega)) := by rw [if_neg (by omega)]; exact List.getElem?_eq_getElem (by omega)
            have hm2 := Hm.out
            rw [if_neg (by rw [Ha.out]; simp), hprev] at hm2
            clear hprev
            generalize hgp : l[i]'(by omega) = g at *
            have Hgp := Lib.hid hgp; clear hgp
            have hii : (i : Int) < n := by omega
            have hi0 : (0 : Int) ≤ i := by omega
            have hri := ref03_falls g ⟨num, 2, 0, fA, flen, fcap, fb⟩
            have hw1 : IntKind.i64.wrap (i : Int) = i := IntWalk.i64_in _ (by omega)
            have hw2 : IntKind.i64.wrap ((i : Int) + 1) = (i : Int) + 1 := IntWalk.i64_in _ (by omega)
            rcases hrv : risesB g ⟨num, 2, 0, fA, flen, fcap, fb⟩ with _ | _
            · rw [hrv] at hri
              have HR := Lib.hid hri; clear hri
              have Hm3 : Hid (fmay l = 5) := Lib.hid (by rw [if_pos (show fallsB (some g) ⟨num, 2, 0, fA, flen, fcap, fb⟩ = true by simp [fallsB, hrv])] at hm2; exact hm2)
              clear hrv hm2
              go_region_held3 (fun w' => w'.cell? ⟨b, off + i * 4, none⟩ = some (.int .i64 g.num) ∧ w'.cell? ⟨b, off + i * 4 + 1, none⟩ = some (.int .i64 g.wire) ∧ w'.cell? ⟨b, off + i * 4 + 2, none⟩ = some (.int .u64 g.n) ∧ w'.cell? ⟨b, off + i * 4 + 3, none⟩ = some (.slice g.A g.len g.cap) ∧
                  w'.cell? ⟨wr.heap.size, 0, none⟩ = some (.int .i64 num) ∧ w'.cell? ⟨wr.heap.size, 1, none⟩ = some (.int .i64 2) ∧ w'.cell? ⟨wr.heap.size, 2, none⟩ = some (.int .u64 0) ∧ w'.cell? ⟨wr.heap.size, 3, none⟩ = some (.slice fA flen fcap))
                (first
                  | go_keep
                  | (exact ⟨y2.cell p0, y2.cell p1, y2.cell p2, y2.cell p3, y2.cell e0, y2.cell e1, y2.cell e2, y2.cell e3⟩))
                (first
                  | (go_at_call 122; refine (HR.out _).mono ?_; rintro e w2 ⟨rfl, y2⟩))
              go_wp2
              go_ret
              exact ⟨by rw [Hm3.out]; rfl, hx1.drew.trans y2⟩
            · rw [hrv] at hri
              have HR := Lib.hid hri; clear hri
              rw [if_neg (show ¬ fallsB (some g) ⟨num, 2, 0, fA, flen, fcap, fb⟩ = true by simp [fallsB, hrv])] at hm2
              clear hrv
              by_cases hbig : 16384 < flen
              · rw [if_pos hbig] at hm2
                have Hm3 := Lib.hid hm2; clear hm2
                go_region_held3 (fun w' => w'.cell? ⟨b, off + i * 4, none⟩ = some (.int .i64 g.num) ∧ w'.cell? ⟨b, off + i * 4 + 1, none⟩ = some (.int .i64 g.wire) ∧ w'.cell? ⟨b, off + i * 4 + 2, none⟩ = some (.int .u64 g.n) ∧ w'.cell? ⟨b, off + i * 4 + 3, none⟩ = some (.slice g.A g.len g.cap) ∧
                    w'.cell? ⟨wr.heap.size, 0, none⟩ = some (.int .i64 num) ∧ w'.cell? ⟨wr.heap.size, 1, none⟩ = some (.int .i64 2) ∧ w'.cell? ⟨wr.heap.size, 2, none⟩ = some (.int .u64 0) ∧ w'.cell? ⟨wr.heap.size, 3, none⟩ = some (.slice fA flen fcap))
                  (first
                    | go_keep
                    | (exact ⟨y2.cell p0, y2.cell p1, y2.cell p2, y2.cell p3, y2.cell e0, y2.cell e1, y2.cell e2, y2.cell e3⟩))
                  (first
                    | (go_at_call 122; refine (HR.out _).mono ?_; rintro e w2 ⟨rfl, y2⟩))
                go_wp2
                go_ret
                exact ⟨by rw [Hm3.out]; rfl, hx1.drew.trans y2⟩
              · rw [if_neg hbig] at hm2
                have Hm3 := Lib.hid hm2; clear hm2
                go_region_held3 (fun w' => w'.cell? ⟨b, off + i * 4, none⟩ = some (.int .i64 g.num) ∧ w'.cell? ⟨b, off + i * 4 + 1, none⟩ = some (.int .i64 g.wire) ∧ w'.cell? ⟨b, off + i * 4 + 2, none⟩ = some (.int .u64 g.n) ∧ w'.cell? ⟨b, off + i * 4 + 3, none⟩ = some (.slice g.A g.len g.cap) ∧
                    w'.cell? ⟨wr.heap.size, 0, none⟩ = some (.int .i64 num) ∧ w'.cell? ⟨wr.heap.size, 1, none⟩ = some (.int .i64 2) ∧ w'.cell? ⟨wr.heap.size, 2, none⟩ = some (.int .u64 0) ∧ w'.cell? ⟨wr.heap.size, 3, none⟩ = some (.slice fA flen fcap))
                  (first
                    | go_keep
                    | (exact ⟨y2.cell p0, y2.cell p1, y2.cell p2, y2.cell p3, y2.cell e0, y2.cell e1, y2.cell e2, y2.cell e3⟩))
                  (first
                    | (go_at_call 122; refine (HR.out _).mono ?_; rintro e w2 ⟨rfl, y2⟩))
                have q3 := y2.cell e3
                go_wp2
                go_roundw
                case rel => exact ⟨i + 1 + 1, val_int (by omega), by omega, by rw [Hm3.out, fsum_snoc l (i + 1) (by omega)]; simp [Hfj.out, List.getElem?_eq_getElem (show i + 1 < l.length by omega)], fun k hk => (by
                  rcases Nat.lt_succ_iff_lt_or_eq.1 hk with hk | rfl
                  · exact Hall.out k hk
                  · intro h; rw [Hfj.out]; exact ⟨Ha.out, by dsimp only; omega⟩), hx1.drew.trans y2⟩
                case measure => simp [intOf]; omega
    · obtain rfl : j = n := by omega
      rw [List.drop_of_length_le (by omega), mayScan_nil, List.take_of_length_le (by omega)] at hm
      have Hm := Lib.hid hm; clear hm
      obtain ⟨wo, rfl⟩ : ∃ wo : World, wo = wr := ⟨_, rfl⟩
      have Hx := Lib.hid hx; clear hx
      go_wp2
      go_loopw [7, 8] (fun s i wr => ∃ k : Nat, i = .int .i64 k ∧ s = .int .i64 (fsum (l.take k)) ∧ k ≤ j ∧ fsum (l.take k) ≤ k * 16396 ∧ Ext w wr) (fun _ i _ => j - (intOf i).toNat)
      case atStart => exact ⟨0, rfl, rfl, by omega, by simp [fsum], Hx.out⟩
      case round =>
        obtain ⟨k, rfl, rfl, hk, hsz, hxr⟩ := hrel
        by_cases hkn : k < j
        · obtain ⟨b, off, rfl, d0, d1, d2, d3⟩ := (hf.ext hxr).at_ hkn
          have hok := (hf.ext hxr).ok l[k] (List.getElem_mem _)
          have hal := Hall.out k hkn (by omega)
          have hsn := fsum_snoc l k (by omega)
          generalize l[k] = f at *
          have hfl := fsize_le f hal.1 hok hal.2
          have H1 := Lib.hid (ref03_one_f f wr hal.1 hok hal.2)
          clear hal
          generalize fsum (l.take k) = S at *
          have Hsn := Lib.hid hsn; clear hsn
          go_wp2_with fail
          refine H1.out.mono ?_
          rintro e w2 ⟨v2, rfl, hown2, y2⟩
          obtain ⟨A2, k2, rfl, _⟩ := own_form hown2
          clear hown2
          go_wp2
          go_roundw
          case rel => exact ⟨k + 1, val_int (by omega), val_int (by rw [Hsn.out]; omega), by omega, by rw [Hsn.out, Nat.succ_mul]; omega, hxr.trans y2⟩
          case measure => simp [intOf]; omega
        · obtain rfl : k = j := by omega
          have ht : l.take k = l := List.take_of_length_le (by omega)
          rw [ht] at hsz ⊢
          clear ht
          generalize hS : fsum l = S at *
          by_cases hbig : 16384 < S
          · have Hm2 : Hid (fmay l = 4) := Lib.hid (by rw [Hm.out, if_pos hbig])
            clear hS
            go_wp2
            go_ret
            exact ⟨by rw [Hm2.out]; rfl, hxr⟩
          · have Hm2 : Hid (fmay l = 0) := Lib.hid (by rw [Hm.out, if_neg hbig])
            clear hS
            go_wp2
            go_ret
            exact ⟨by rw [Hm2.out]; rfl, hxr⟩
end Go.Proofs.Ytiildgoaiookhaa
