/- Words and walks that the last text of this claim stands on: NtM, NtN. No condition. -/
import Derived.Test.YtcoaofaofmbfbaaB28
import Derived.Test.YtcoaofaofmbfbaaB12
import Derived.Test.YtcoaofaofmbfbaaB32
import Derived.Test.YtcoaofaofmbfbaaB19
import Derived.Test.YtcoaofaofmbfbaaB29
/- The walks of letters and one of layer 21's laws. -/
namespace Go.Proofs.Ytcoaofaofmbfbaa
open Go.RowKit

theorem law21_letter_ (x : LV) (w : World) (hx : x.Ok w) :
    Calls Try.prog 64 #[x.val] w fun e w' => ∃ A c, e = .returned (cutX x A c).val ∧ w'.ownsRow w.heap.size 31 2 (.slice A (min 6 x.n) c) (min 6 x.n) (logOf (cutL 6 250 x.l)) ∧ Ext w w' := by
  refine (law21_letter x.kind x.src x.dst x.term x.a x.b x.c x.bin x.ok x.A x.n x.cp x.l w hx.es hx.le hx.cap).mono ?_
  rintro e w' ⟨v, rfl, hown, he⟩
  obtain ⟨A, c, rfl, _⟩ := own_form hown
  exact ⟨A, c, rfl, hown, he⟩
theorem lettersT : SliceT Try.prog 47 26 10 96 := .mk' Try.underlying47 (z := .agg #[.int .i64 0, .int .i64 0, .int .i64 0, .int .i64 0, .int .i64 0, .int .i64 0, .int .i64 0, .int .i64 0, .bool false, .slice none 0 0]) (by kernel_rfl) rfl
/-- a letter whose row of entries is the call's own, and whose entries' bytes lie in M -/
structure OwnY (w : World) (B : Nat) (M : World) (y : LV) : Prop where
  row : w.ownsRow B 31 2 (.slice y.A y.n y.cp) y.n (logOf y.l)
  es : ∀ z ∈ y.l, z.Ok M
  few : y.n ≤ 6
  u0 : I64 y.kind
  u1 : I64 y.src
  u2 : I64 y.dst
  u3 : I64 y.term
  u4 : I64 y.a
  u5 : I64 y.b
  u6 : I64 y.c
  u7 : I64 y.bin
theorem OwnY.ext {w w' M : World} {B : Nat} {y : LV} (h : OwnY w B M y) (he : Ext w w') : OwnY w' B M y := ⟨own_ext h.row he, h.es, h.few, h.u0, h.u1, h.u2, h.u3, h.u4, h.u5, h.u6, h.u7⟩
theorem OwnY.to {w M : World} {B B' : Nat} {y : LV} (h : OwnY w B M y) (hB : B' ≤ B) : OwnY w B' M y := ⟨own_base h.row hB, h.es, h.few, h.u0, h.u1, h.u2, h.u3, h.u4, h.u5, h.u6, h.u7⟩
theorem OwnY.fr {F : Nat → Bool} {w w' M : World} {B : Nat} {y : LV} (h : OwnY w B M y) (hf : Fr F w w') (hF : ∀ k, (Value.slice y.A y.n y.cp).ownBlock = some k → F k = false) : OwnY w' B M y := ⟨own_fr h.row hf hF, h.es, h.few, h.u0, h.u1, h.u2, h.u3, h.u4, h.u5, h.u6, h.u7⟩
theorem OwnY.ok {w M : World} {B : Nat} {y : LV} (h : OwnY w B M y) (he : Ext M w) : y.Ok w :=
  ⟨Es.of_own h.row fun z hz => (h.es z hz).ext he, (own_bounds h.row).1, (own_bounds h.row).2, h.u0, h.u1, h.u2, h.u3, h.u4, h.u5, h.u6, h.u7⟩
theorem OwnY.okM {F : Nat → Bool} {w M : World} {B : Nat} {y : LV} (h : OwnY w B M y) (hF : ∀ k, F k = true → k < B) (he : Ext M (mask F w)) : y.Ok (mask F w) :=
  OwnY.ok (B := B) (M := M) ⟨own_mask h.row fun k hk => by
    have := (h.row.lt k hk).1
    cases e : F k with
    | false => rfl
    | true => have := hF k e; omega, h.es, h.few, h.u0, h.u1, h.u2, h.u3, h.u4, h.u5, h.u6, h.u7⟩ he
theorem OwnY.grown {w w' M : World} {B B' : Nat} {y : LV} {v : Value} {n : Nat} {xs : List Value} (h : OwnY w B M y) (hv : w.ownsRow B' 26 10 v n xs) (hg : w.grownBy w' v.ownBlock) : OwnY w' B M y :=
  ⟨own_grown h.row hg (own_apart h.row hv (by decide)), h.es, h.few, h.u0, h.u1, h.u2, h.u3, h.u4, h.u5, h.u6, h.u7⟩
set_option maxRecDepth 100000 in
set_option maxHeartbeats 1600000 in
theorem law21_letters (A : Option Addr) (n c : Nat) (l : List LV) (M w : World) (hl : Ts M A n l) (hM : Ext M w) (hnc : n ≤ c) (hcm : c ≤ maxLen) :
    Calls Try.prog 26 #[.slice A n c] w fun e w' => ∃ v l', e = .returned v ∧ w'.ownsRow w.heap.size 26 10 v l'.length (thingsOf l') ∧ l'.length ≤ 8 ∧ (∀ y ∈ l', OwnY w' w.heap.size M y) ∧ Ext w w' := by
  have hlen := hl.len
  have hmx : n ≤ 9223372036854775807 := by unfold maxLen at hcm; omega
  have h0 := own_empty w 26 10
  have H0 := Lib.hid h0
  clear hcm h0
  go_enter Try.func26, Try.ntmps26
  go_wp2_with fail
  go_loopw [3, 4] (fun v i wr => ∃ j : Nat, i = .int .i64 j ∧ j ≤ n ∧ j ≤ 8 ∧ (∃ d : List LV, d.length ≤ j ∧ wr.ownsRow w.heap.size 26 10 v d.length (thingsOf d) ∧ ∀ y ∈ d, OwnY wr w.heap.size M y) ∧ Ext w wr) (fun _ i _ => n - (intOf i).toNat)
  case atStart => exact ⟨0, rfl, by omega, by omega, ⟨[], Nat.le_refl _, H0.out, by simp⟩, (Ext.refl w).alloc _⟩
  case round =>
    clear H0
    obtain ⟨j, rfl, hj, hj8, ⟨d, hdj, hown, hD⟩, hx⟩ := hrel
    obtain ⟨v3, rfl⟩ : ∃ v3 : Value, v3 = u3 := ⟨_, rfl⟩
    have hjl : (j : Int) ≤ 8 := by omega
    by_cases hjn : j < n
    · have hj1 : (j : Int) < n := by omega
      have hj0 : (0 : Int) ≤ j := by omega
      by_cases h8 : j < 8
      · have h8i : (j : Int) < 8 := by omega
        obtain ⟨b, off, rfl, hbw, hcl⟩ := ((hl.ext hM).ext hx).at_ hjn
        have hyM : (l[j]).Ok M := hl.ok l[j] (List.getElem_mem _)
        generalize l[j] = y at *
        have e0 := hcl 0 (by omega)
        have e1 := hcl 1 (by omega)
        have e2 := hcl 2 (by omega)
        have e3 := hcl 3 (by omega)
        have e4 := hcl 4 (by omega)
        have e5 := hcl 5 (by omega)
        have e6 := hcl 6 (by omega)
        have e7 := hcl 7 (by omega)
        have e8 := hcl 8 (by omega)
        have e9 := hcl 9 (by omega)
        simp only [show Thing.cells y = LV.cells y from rfl, LV.cells, List.getElem?_cons_zero, List.getElem?_cons_succ, Nat.add_zero] at e0 e1 e2 e3 e4 e5 e6 e7 e8 e9
        have HL := Lib.hid (law21_letter_ y wr ((hyM.ext hM).ext hx))
        unfold LV.val at HL
        dsimp only [cutX] at HL
        have HYM := Lib.hid hyM
        have HOWN := Lib.hid hown
        have HD := Lib.hid hD
        clear hcl hyM hown hD
        go_wp2_with fail
        refine HL.out.mono ?_
        rintro e w2 ⟨A2, c2, rfl, hown2, x2⟩
        obtain ⟨z, hz⟩ : ∃ z : LV, z = cutX y A2 c2 := ⟨_, rfl⟩
        have hoz : OwnY (w2.alloc (.cells #[.int .i64 y.kind, .int .i64 y.src, .int .i64 y.dst, .int .i64 y.term, .int .i64 y.a, .int .i64 y.b, .int .i64 y.c, .int .i64 y.bin, .bool y.ok, .slice A2 (min 6 y.n) c2] 26)) w.heap.size M z := by
          rw [hz]
          exact ⟨own_ext (own_base hown2 hx.size) ((Ext.refl w2).alloc _), cutL_ok HYM.out.es.ok, by show min 6 y.n ≤ 6; omega, HYM.out.u0, HYM.out.u1, HYM.out.u2, HYM.out.u3, HYM.out.u4, HYM.out.u5, HYM.out.u6, HYM.out.u7⟩
        have hrow := own_ext HOWN.out x2
        have hsz := (hx.trans x2).size
        have hx2 := hx.trans x2
        have HZ := Lib.hid hz
        have HD2 := Lib.hid (fun q hq => ((HD.out q hq).ext x2).ext ((Ext.refl w2).alloc (.cells #[.int .i64 y.kind, .int .i64 y.src, .int .i64 y.dst, .int .i64 y.term, .int .i64 y.a, .int .i64 y.b, .int .i64 y.c, .int .i64 y.bin, .bool y.ok, .slice A2 (min 6 y.n) c2] 26)))
        have HOZ := Lib.hid hoz
        clear hz hown2 x2 HL HOWN HD hoz e0 e1 e2 e3 e4 e5 e6 e7 e8 e9
        go_wp2_with (at_builtin; refine wpList_app lettersT (by omega) _ rfl rfl rfl (hrow.alloc _) rfl (Rd.block w2 #[.int .i64 y.kind, .int .i64 y.src, .int .i64 y.dst, .int .i64 y.term, .int .i64 y.a, .int .i64 y.b, .int .i64 y.c, .int .i64 y.bin, .bool y.ok, .slice A2 (min 6 y.n) c2] 26 1 rfl) (Thing.one (cutX y A2 c2)) (by unfold maxLen; omega) (by omega) (by simp; omega) ?_; intro v4 w4 hown4 hg4 hat4)
        have x4 := Below.app (hx2.alloc _) hg4 (by simp; omega) (hrow.alloc _) (Nat.le_refl _)
        have hD4 : ∀ q ∈ d ++ [z], OwnY w4 w.heap.size M q := fun q hq => by
          rcases List.mem_append.1 hq with hq | hq
          · exact (HD2.out q hq).grown (hrow.alloc _) hg4
          · simp only [List.mem_singleton] at hq
            subst hq
            exact HOZ.out.grown (hrow.alloc _) hg4
        have HO4 := Lib.hid (own_to (n' := (d ++ [z]).length) (ys := thingsOf (d ++ [z])) hown4 (Nat.le_refl _) (by simp) (by rw [thingsOf_append, thingsOf_one, HZ.out]; rfl))
        have HD4 := Lib.hid hD4
        have HX4 := Lib.hid x4
        clear hown4 hg4 hat4 hrow hD4 x4
        go_roundw
        case rel => exact ⟨j + 1, val_int (by omega), by omega, by omega, ⟨d ++ [z], by rw [List.length_append]; simp; omega, HO4.out, HD4.out⟩, HX4.out⟩
        case measure => simp [intOf]; omega
      · have h8i : ¬ (j : Int) < 8 := by omega
        have HO := Lib.hid hown
        clear hown
        go_wp2_with fail
        go_ret
        exact ⟨_, rfl, d, HO.out, by omega, hD, hx⟩
    · have hj1 : ¬ (j : Int) < n := by omega
      have HO := Lib.hid hown
      clear hown
      go_wp2_with fail
      go_ret
      exact ⟨_, rfl, d, HO.out, by omega, hD, hx⟩

/-- the document's letter -/
def oneX : LV := ⟨2, 0, 1, 2, 0, 0, 0, 3, false, none, 0, 0, []⟩
theorem oneX_ok (w : World) : oneX.Ok w := ⟨Es.nil_ _ _, Nat.le_refl _, by simp [oneX, maxLen], ⟨by decide, by decide⟩, ⟨by decide, by decide⟩, ⟨by decide, by decide⟩, ⟨by decide, by decide⟩, ⟨by decide, by decide⟩, ⟨by decide, by decide⟩, ⟨by decide, by decide⟩, ⟨by decide, by decide⟩⟩
set_option maxRecDepth 100000 in
set_option maxHeartbeats 400000 in
theorem law21_one (w : World) : Calls Try.prog 63 #[] w fun e w' => e = .returned oneX.val ∧ Ext w w' := by
  have hB := Blk.new w 26 [.int .i64 2, .int .i64 0, .int .i64 1, .int .i64 2, .int .i64 0, .int .i64 0, .int .i64 0, .int .i64 3, .bool false, .slice none 0 0]
  have d0 := hB.cell 0
  have d1 := hB.cell 1
  have d2 := hB.cell 2
  have d3 := hB.cell 3
  have d4 := hB.cell 4
  have d5 := hB.cell 5
  have d6 := hB.cell 6
  have d7 := hB.cell 7
  have d8 := hB.cell 8
  have d9 := hB.cell 9
  simp only [List.getElem?_cons_zero, List.getElem?_cons_succ] at d0 d1 d2 d3 d4 d5 d6 d7 d8 d9
  clear hB
  go_enter Try.func63, Try.ntmps63
  go_wp2_with fail
  refine bodyPost_ret (v := oneX.val) (by simp [results, Try.results63, go_sem, oneX, LV.val, d0, d1, d2, d3, d4, d5, d6, d7, d8, d9]) rfl ⟨rfl, (Ext.refl w).alloc _⟩

theorem let_isLet {y : LV} {w : World} (hy : y.Ok w) (h : mayB y = true) : IsLet (letB y) y [] := by
  have hf := let_may h (fun z hz => (hy.es.ok z hz).bs.len) hy.es.len
  exact ⟨h, rfl, by rw [List.append_nil]; exact hf, by rw [List.append_nil]; rfl, hy.es.len, fun z hz => (hy.es.ok z hz).bs.len, by simp⟩
/-- what was sent is taken as it was -/
theorem take_back {x : NetV} {i : Int} {lx y : LV} {code : Nat} {w : World} (h : TakeRes x i lx code) (ht : thereB x.n i = true) (ha : x.at i = letB y) (hy : y.Ok w) (hm : mayB y = true) : code = 0 ∧ letEq y lx = true := by
  rcases h with ⟨h1, _⟩ | ⟨_, ms, h2⟩
  · rw [ht] at h1; cases h1
  · rw [ha] at h2
    obtain ⟨k1, k2, _⟩ := back_whole (let_isLet hy hm) h2
    exact ⟨k1, k2⟩
theorem NetV.n_p {w : World} {F : Nat → Bool} {g : Nat} {x : NetV} (h : Net w F g x) : x.n = x.p.row.length := (NetV.len_p h).symm
theorem one_may : allMay [oneX] = true := by decide
set_option maxRecDepth 100000 in
set_option maxHeartbeats 1600000 in
theorem law21_shown (w : World) : Calls Try.prog 24 #[] w fun e w' => e = .returned (.bool true) ∧ Ext w w' := by
  have HO := Lib.hid (law21_one)
  unfold oneX LV.val at HO
  go_enter Try.func24, Try.ntmps24
  go_wp2_with fail
  refine (net_New w).mono ?_
  rintro e w1 ⟨rfl, hN, x1⟩
  have HN := Lib.hid hN
  clear hN
  go_wp2_with fail
  refine (HO.out w1).mono ?_
  rintro e w2 ⟨rfl, x2⟩
  have hts : Ts (w2.alloc (.cells #[.int .i64 2, .int .i64 0, .int .i64 1, .int .i64 2, .int .i64 0, .int .i64 0, .int .i64 0, .int .i64 3, .bool false, .slice none 0 0] 26)) (some ⟨w2.heap.size, 0, none⟩) 1 [oneX] :=
    ⟨by rw [thingsOf_one]; exact Rd.block w2 #[.int .i64 2, .int .i64 0, .int .i64 1, .int .i64 2, .int .i64 0, .int .i64 0, .int .i64 0, .int .i64 3, .bool false, .slice none 0 0] 26 1 rfl, fun y hy => by simp only [List.mem_singleton] at hy; subst hy; exact oneX_ok _, by omega⟩
  have x3 : Ext w1 (w2.alloc (.cells #[.int .i64 2, .int .i64 0, .int .i64 1, .int .i64 2, .int .i64 0, .int .i64 0, .int .i64 0, .int .i64 3, .bool false, .slice none 0 0] 26)) := x2.alloc _
  have HS := Lib.hid (net_Send (fun k => k == w.heap.size) w.heap.size netZ (some ⟨w2.heap.size, 0, none⟩) 1 1 [oneX] _ (IsNet.ext HN.out x3) hts (by omega) (by intro y hy; simp only [List.mem_singleton] at hy; subst hy; simp [oneX]) (by simp [netZ]) (by simp [netZ]))
  have xw3 := x1.trans x3
  clear x2 hts
  go_wp2_with fail
  refine HS.out.mono ?_
  rintro e w4 ⟨y4, F4, rfl, hN4, hp4, hF4, hf4⟩
  have hFb4 : ∀ k, F4 k = true → w.heap.size ≤ k := fun k hk => by
    by_cases h : k < (w2.alloc (.cells #[.int .i64 2, .int .i64 0, .int .i64 1, .int .i64 2, .int .i64 0, .int .i64 0, .int .i64 0, .int .i64 3, .bool false, .slice none 0 0] 26)).heap.size
    · rw [hF4 k h] at hk; simp at hk; omega
    · have := xw3.size; omega
  have xw4 : Ext w w4 := hf4.below xw3 xw3.size (fun k hk => by simp at hk; omega)
  have HP4 : Hid (y4.p = ⟨[letB oneX], 1, 0, 0⟩) := Lib.hid (by rw [hp4]; rfl)
  have hn4 : y4.n = 1 := by rw [NetV.n_p hN4, HP4.out]; rfl
  have hc4 : sendC netZ.n [oneX] = 0 := rfl
  have hs4 : y4.sent = 1 := by have := HP4.out; exact congrArg NetP.sent this
  have ht4 : y4.taken = 0 := by have := HP4.out; exact congrArg NetP.taken this
  rw [hc4]
  have HT := Lib.hid (net_Twice F4 w.heap.size y4 0 w4 hN4 (by omega))
  have HN4 : Hid (y4.n = 1) := Lib.hid hn4
  have HT4 := Lib.hid ht4
  clear hc4 hs4 ht4 hn4 HS HO HN hF4 hf4 hp4 hN4 x1 x3 xw3
  go_wp2_with fail
  refine HT.out.mono ?_
  rintro e w5 ⟨y5, F5, rfl, hN5, hp5, hF5, hf5⟩
  have hFb5 : ∀ k, F5 k = true → w.heap.size ≤ k := fun k hk => by
    by_cases h : k < w4.heap.size
    · rw [hF5 k h] at hk; exact hFb4 k hk
    · have := xw4.size; omega
  have xw5 : Ext w w5 := hf5.below xw4 xw4.size hFb4
  have HP5 : Hid (y5.p = ⟨[letB oneX, letB oneX], 2, 0, 0⟩) := Lib.hid (by rw [hp5, HP4.out]; rfl)
  have hn5 : y5.n = 2 := by rw [NetV.n_p hN5, HP5.out]; rfl
  have ht5 : y5.taken = 0 := by have := HP5.out; exact congrArg NetP.taken this
  have hc5 : twiceC y4.n 0 = 0 := by rw [HN4.out]; rfl
  rw [hc5]
  have HK := Lib.hid (net_Take F5 w.heap.size y5 1 w5 hN5 (by omega))
  have hat5 : y5.at 1 = letB oneX := by rw [← NetV.at_p hN5, HP5.out]; rfl
  have hth5 : thereB y5.n 1 = true := by rw [hn5]; rfl
  have HA5 := Lib.hid hat5
  have HH5 := Lib.hid hth5
  have HN5 := Lib.hid hn5
  clear hc5 ht5 hn5 HT HN4 HT4 hF5 hf5 hp5 hN5 xw4 hFb4 HP4 hat5 hth5
  go_wp2_with fail
  refine HK.out.mono ?_
  rintro e w6 ⟨lx, code, rfl, hox, _, hres, hN6, hf6⟩
  obtain ⟨rfl, heq⟩ := take_back hres HH5.out HA5.out (oneX_ok w6) (by decide)
  have hterm : lx.term = 2 := by
    have := letEq_iff.1 heq
    simp only [LV.p, Prod.mk.injEq] at this
    have h := this.1.2.2.2.1
    exact h.symm
  have hn6 : (y5.take 1).n = 1 := by
    unfold NetV.take
    rw [if_pos HH5.out]
    show y5.n - 1 = 1
    rw [HN5.out]
  have xw6 : Ext w w6 := hf6.below xw5 xw5.size hFb5
  clear HK hres hf6 hox heq xw5 HP5 HA5 HH5 HN5
  unfold LV.val
  rw [hterm]
  have HT6 := Lib.hid hterm
  clear hterm
  go_upto_region 7 with fail
  have hB := Blk.new w6 26 [.int .i64 lx.kind, .int .i64 lx.src, .int .i64 lx.dst, .int .i64 2, .int .i64 lx.a, .int .i64 lx.b, .int .i64 lx.c, .int .i64 lx.bin, .bool lx.ok, .slice lx.A lx.n lx.cp]
  have d3 := hB.cell 3
  simp only [List.getElem?_cons_zero, List.getElem?_cons_succ] at d3
  have x7 : Ext w6 (w6.alloc (.cells #[.int .i64 lx.kind, .int .i64 lx.src, .int .i64 lx.dst, .int .i64 2, .int .i64 lx.a, .int .i64 lx.b, .int .i64 lx.c, .int .i64 lx.bin, .bool lx.ok, .slice lx.A lx.n lx.cp] 26)) := (Ext.refl w6).alloc _
  have HL := Lib.hid (net_Len F5 w.heap.size (y5.take 1) _ (IsNet.ext hN6 x7))
  rw [hn6] at HL
  have xw7 := xw6.trans x7
  clear hB hN6 hn6 x7 xw6
  go_wp2_with fail
  refine HL.out.mono ?_
  rintro e w8 ⟨rfl, hw8⟩
  subst w8
  go_wp2_with fail
  go_ret
  exact ⟨rfl, xw7⟩
end Go.Proofs.Ytcoaofaofmbfbaa

/- The walk of the law NetCounts. (Printed by wip/tools/ntcounts.py.) -/
namespace Go.Proofs.Ytcoaofaofmbfbaa
open Go.RowKit

def NetV.Inv (x : NetV) : Prop := x.sent = x.taken + x.lost + x.n
theorem inv_send {w w' : World} {F F' : Nat → Bool} {g : Nat} {x x' : NetV} {l : List LV} (h : Net w F g x) (h' : Net w' F' g x') (hp : x'.p = x.p.send l) (hi : x.Inv) : x'.Inv ∧ (sendC x.n l = 1 → x'.n = x.n) ∧ x'.sent ≤ x.sent + l.length := by
  have hn := NetV.n_p h
  have hn' := NetV.n_p h'
  have hs : x'.sent = (x.p.send l).sent := congrArg NetP.sent hp
  have ht : x'.taken = (x.p.send l).taken := congrArg NetP.taken hp
  have hl : x'.lost = (x.p.send l).lost := congrArg NetP.lost hp
  have hr : x'.p.row = (x.p.send l).row := congrArg NetP.row hp
  rw [hr] at hn'
  unfold NetV.Inv at *
  unfold NetP.send at hs ht hl hn'
  by_cases hm : allMay l = false
  · rw [if_pos hm] at hs ht hl hn'
    have e1 : x.p.sent = x.sent := rfl
    have e2 : x.p.taken = x.taken := rfl
    have e3 : x.p.lost = x.lost := rfl
    refine ⟨by omega, fun _ => by omega, by omega⟩
  · rw [if_neg hm] at hs ht hl hn'
    simp only [List.length_append, List.length_take, List.length_map] at hs ht hl hn'
    have e1 : x.p.sent = x.sent := rfl
    have e2 : x.p.taken = x.taken := rfl
    have e3 : x.p.lost = x.lost := rfl
    have hq : roomN x.p.row.length l.length ≤ l.length := by unfold roomN; omega
    refine ⟨by omega, fun hc => ?_, by omega⟩
    unfold sendC at hc
    rw [if_neg hm] at hc
    split at hc <;> simp at hc
theorem inv_take {x : NetV} {i : Int} (h : x.Inv) (hn : x.n = x.l.length) : (x.take i).Inv ∧ (x.take i).sent = x.sent ∧ (thereB x.n i = true → (x.take i).n + 1 = x.n) ∧ (thereB x.n i = false → (x.take i).n = x.n) := by
  unfold NetV.Inv at *
  unfold NetV.take
  rcases there_cases x.n i with ⟨h1, _, k, _, hk⟩ | ⟨h1, _⟩
  · rw [if_pos h1]
    exact ⟨by simp only [NetV.erase]; omega, rfl, fun _ => by show x.n - 1 + 1 = x.n; omega, fun e => by rw [h1] at e; cases e⟩
  · rw [if_neg (by rw [h1]; simp)]
    exact ⟨h, rfl, (fun e => by rw [h1] at e; cases e), fun _ => rfl⟩
theorem inv_drop {x : NetV} {i : Int} (h : x.Inv) : (x.drop i).Inv ∧ (x.drop i).sent = x.sent ∧ (thereC x.n i = 0 → (x.drop i).n + 1 = x.n) ∧ (thereC x.n i = 1 → (x.drop i).n = x.n) := by
  unfold NetV.Inv at *
  unfold NetV.drop
  rcases there_cases x.n i with ⟨h1, h2, k, _, hk⟩ | ⟨h1, h2⟩
  · rw [if_pos h1, h2]
    exact ⟨by simp only [NetV.erase]; omega, rfl, fun _ => by show x.n - 1 + 1 = x.n; omega, fun e => by omega⟩
  · rw [if_neg (by rw [h1]; simp), h2]
    exact ⟨h, rfl, fun e => by omega, fun _ => rfl⟩
theorem inv_twice {w w' : World} {F F' : Nat → Bool} {g : Nat} {x x' : NetV} {i : Int} (h : Net w F g x) (h' : Net w' F' g x') (hp : x'.p = x.p.twice i) (hi : x.Inv) : x'.Inv ∧ (twiceC x.n i = 0 → x'.n = x.n + 1) ∧ (twiceC x.n i ≠ 0 → x'.n = x.n) ∧ x'.sent ≤ x.sent + 1 := by
  have hn := NetV.n_p h
  have hn' := NetV.n_p h'
  have hs : x'.sent = (x.p.twice i).sent := congrArg NetP.sent hp
  have ht : x'.taken = (x.p.twice i).taken := congrArg NetP.taken hp
  have hl : x'.lost = (x.p.twice i).lost := congrArg NetP.lost hp
  have hr : x'.p.row = (x.p.twice i).row := congrArg NetP.row hp
  rw [hr] at hn'
  have e1 : x.p.sent = x.sent := rfl
  have e2 : x.p.taken = x.taken := rfl
  have e3 : x.p.lost = x.lost := rfl
  unfold NetV.Inv at *
  unfold NetP.twice at hs ht hl hn'
  unfold twiceC
  rw [hn]
  by_cases h1 : thereB x.p.row.length i = false
  · rw [if_pos h1] at hs ht hl hn' ⊢
    refine ⟨by omega, fun hh => by omega, fun _ => by omega, by omega⟩
  · rw [if_neg h1] at hs ht hl hn' ⊢
    by_cases h2 : 256 ≤ x.p.row.length
    · rw [if_pos h2] at hs ht hl hn' ⊢
      refine ⟨by omega, fun hh => by omega, fun _ => by omega, by omega⟩
    · rw [if_neg h2] at hs ht hl hn' ⊢
      simp only [List.length_append, List.length_singleton] at hs ht hl hn'
      refine ⟨by omega, fun _ => by omega, fun hh => absurd rfl hh, by omega⟩
theorem inv_turn {x : NetV} {i p b : Int} (h : x.Inv) : (x.turn i p b).Inv ∧ (x.turn i p b).sent = x.sent ∧ (x.turn i p b).n = x.n := by
  unfold NetV.turn
  split
  · exact ⟨h, rfl, rfl⟩
  · exact ⟨h, rfl, rfl⟩
theorem and7 (x : Nat) (h : x < 256) : bits .and .u8 (x : Int) 7 = ((x % 8 : Nat) : Int) := by
  have : ∀ y : Fin 256, bits .and .u8 ((y.val : Nat) : Int) 7 = ((y.val % 8 : Nat) : Int) := by decide +kernel
  exact this ⟨x, h⟩
set_option maxRecDepth 100000 in
set_option maxHeartbeats 3200000 in
theorem law_NetCounts (A : Option Addr) (n c : Nat) (l : List OpV) (w : World) (hl : Ts w A n l) (hnc : n ≤ c) (hcm : c ≤ maxLen) :
    Calls Try.prog 9 #[.slice A n c] w fun e w' => e = .returned (.bool true) ∧ Ext w w' := by
  have hlen := hl.len
  have hmx : n ≤ 9223372036854775807 := by unfold maxLen at hcm; omega
  clear hcm
  go_enter Try.func9, Try.ntmps9
  go_wp2_with fail
  refine (law21_shown w).mono ?_
  rintro e w1 ⟨rfl, x1⟩
  go_wp2_with fail
  refine (net_New w1).mono ?_
  rintro e w2 ⟨rfl, hN, x2⟩
  have HN := Lib.hid hN
  have xw2 := x1.trans x2
  have hg := x1.size
  generalize w1.heap.size = g at *
  clear hN x1 x2
  go_wp2_with fail
  go_loopw [5] (fun i wr => ∃ j : Nat, i = .int .i64 j ∧ j ≤ n ∧ j ≤ 40 ∧ (∃ (x : NetV) (F : Nat → Bool), Net wr F g x ∧ (∀ k, F k = true → w.heap.size ≤ k) ∧ Hid x.Inv ∧ x.sent ≤ 10 * j) ∧ Ext w wr) (fun i _ => n - (intOf i).toNat)
  case atStart => exact ⟨0, rfl, by omega, by omega, ⟨netZ, _, HN.out, fun k hk => by simp at hk; omega, Lib.hid rfl, by simp [netZ]⟩, xw2⟩
  case round =>
    clear HN xw2
    obtain ⟨j, rfl, hj, hj40, ⟨x, F, hN, hF, HI, hsb⟩, hx⟩ := hrel
    have hj0 : (0 : Int) ≤ j := by omega
    by_cases hjn : j < n
    case neg =>
      have hj1 : ¬ (j : Int) < n := by omega
      clear hN
      go_wp2_with fail
      go_ret
      exact ⟨rfl, hx⟩
    have hj1 : (j : Int) < n := by omega
    by_cases hj4 : j < 40
    case neg =>
      have hj2 : ¬ (j : Int) < 40 := by omega
      clear hN
      go_wp2_with fail
      go_ret
      exact ⟨rfl, hx⟩
    have hj2 : (j : Int) < 40 := by omega
    have hjl : j < l.length := by omega
    obtain ⟨b, off, rfl, hbw, hcl⟩ := (hl.ext hx).at_ hjn
    have hoM : (l[j]).Ok w := hl.ok l[j] (List.getElem_mem _)
    generalize l[j] = o at *
    have e0 := hcl 0 (by omega)
    have e1 := hcl 1 (by omega)
    have e2 := hcl 2 (by omega)
    have e3 := hcl 3 (by omega)
    have e4 := hcl 4 (by omega)
    simp only [show Thing.cells o = OpV.cells o from rfl, OpV.cells, List.getElem?_cons_zero, List.getElem?_cons_succ, Nat.add_zero] at e0 e1 e2 e3 e4
    clear hcl
    have hB := Blk.new wr 59 [.int .u8 o.kind, .int .i64 o.a, .int .i64 o.b, .int .i64 o.c, .slice o.A o.n o.cp]
    have xb : Ext wr (wr.alloc (.cells #[.int .u8 o.kind, .int .i64 o.a, .int .i64 o.b, .int .i64 o.c, .slice o.A o.n o.cp] 59)) := (Ext.refl wr).alloc _
    have HNN := Lib.hid (IsNet.ext hN xb)
    have HX := Lib.hid (hx.trans xb)
    have HB := Lib.hid hB
    have d4 := hB.cell 4
    simp only [List.getElem?_cons_zero, List.getElem?_cons_succ] at d4
    have HLS := Lib.hid (law21_letters o.A o.n o.cp o.l w _ hoM.ls (hx.trans xb) hoM.le hoM.cap)
    have hk := hoM.k
    clear hN hx xb hB hoM
    go_wp2_with fail
    refine HLS.out.mono ?_
    rintro e w3 ⟨v3, ls, rfl, hown3, hl8, hD, x3⟩
    obtain ⟨A3, c3, rfl, _⟩ := own_form hown3
    have hx3 := HX.out.trans x3
    have hts : Ts w3 A3 ls.length ls := Ts.of_own hown3 (fun y hy => (hD y hy).ok hx3) (by omega)
    have HTS := Lib.hid hts
    have HFEW := Lib.hid (fun y hy => (hD y hy).few)
    have hN3 := IsNet.ext HNN.out x3
    have hB3 := HB.out.ext x3
    have HLEN := Lib.hid (net_Len F g x w3 hN3)
    clear HLS hown3 hts hD x3 HNN HX HB d4 e0 e1 e2 e3 e4
    go_wp2_with fail
    refine HLEN.out.mono ?_
    rintro e w4 ⟨rfl, hw4⟩
    subst w4
    clear HLEN
    have d0 := hB3.cell 0
    have d1 := hB3.cell 1
    have d2 := hB3.cell 2
    have d3 := hB3.cell 3
    simp only [List.getElem?_cons_zero, List.getElem?_cons_succ] at d0 d1 d2 d3
    have ha7 := and7 o.kind hk
    clear hB3
    have hxf := hN3.few
    have hst := hN3.t0
    have hsl := hN3.l0
    have hsi := HI.out
    unfold NetV.Inv at hsi
    have HSI := Lib.hid hsi
    have hlo : x.lost ≤ 10 * j := by omega
    have hta : x.taken ≤ 10 * j := by omega
    clear hsi
    have hq8 : o.kind % 8 = 0 ∨ o.kind % 8 = 1 ∨ o.kind % 8 = 2 ∨ o.kind % 8 = 3 ∨ o.kind % 8 = 4 ∨ o.kind % 8 = 5 ∨ 6 ≤ o.kind % 8 := by omega
    rcases hq8 with hq | hq | hq | hq | hq | hq | hq
    · have hqv : o.kind % 8 = 0 := by omega
      rw [hqv] at ha7
      clear hqv
      go_wp2_with fail
      refine (net_Send F g x A3 ls.length c3 ls w3 hN3 HTS.out (by omega) (fun y hy => by have := HFEW.out y hy; omega) (by omega) (by omega)).mono ?_
      rintro e w5 ⟨x5, F5, rfl, hN5, hp5, hF5, hf5⟩
      obtain ⟨i1, i2, i3⟩ := inv_send hN3 hN5 hp5 HI.out
      have HI5 := Lib.hid i1
      have HEQ := Lib.hid i2
      have hFb5 : ∀ k, F5 k = true → w.heap.size ≤ k := fun k hk => by
        by_cases h : k < w3.heap.size
        · rw [hF5 k h] at hk; exact hF k hk
        · have := hx3.size; omega
      have hx5 : Ext w w5 := hf5.below hx3 hx3.size hF
      clear i1 i2 hp5 hF5 hf5 hN3 d0 d1 d2 d3 ha7
      generalize sendC x.n ls = ecc at *
      go_wp2_with fail
      refine (net_Counts F5 g x5 _ hN5).mono ?_
      rintro e w9 ⟨rfl, nd, rfl⟩
      have hNd := IsNet.ext hN5 ((Ext.refl _).drewN nd)
      have hxd := hx5.drewN nd
      have hL9 := Lib.hid (net_Len F5 g x5 _ hNd)
      have hsm := HI5.out
      unfold NetV.Inv at hsm
      have b1 := hNd.t0
      have b2 := hNd.l0
      have b3 := hNd.few
      have hsum := bne_f (show x5.sent = x5.taken + x5.lost + x5.n by omega)
      have hbig := dec_f (show ¬ ((256 : Int) < x5.n) by omega)
      have HND := Lib.hid hNd
      clear hNd hsm hN5
      go_wp2_with fail
      refine hL9.out.mono ?_
      rintro e w10 ⟨rfl, hw10⟩
      subst w10
      go_wp2_with fail
      refine hL9.out.mono ?_
      rintro e w10 ⟨rfl, hw10⟩
      subst w10
      by_cases hec : ecc = 1
      · have hnn := bne_f (show ((x5.n : Nat) : Int) = (x.n : Nat) by rw [HEQ.out hec])
        have hec' := beq_t hec
        clear hec
        go_wp2_with fail
        refine hL9.out.mono ?_
        rintro e w10 ⟨rfl, hw10⟩
        subst w10
        go_wp2_with fail
        go_roundw
        case rel => exact ⟨j + 1, val_int (by omega), by omega, by omega, ⟨x5, F5, HND.out, hFb5, HI5, by omega⟩, hxd⟩
        case measure => simp [intOf]; omega
      · have hec' := beq_f hec
        clear hec
        go_wp2_with fail
        go_roundw
        case rel => exact ⟨j + 1, val_int (by omega), by omega, by omega, ⟨x5, F5, HND.out, hFb5, HI5, by omega⟩, hxd⟩
        case measure => simp [intOf]; omega
    · have hqv : o.kind % 8 = 1 := by omega
      rw [hqv] at ha7
      clear hqv
      go_wp2_with fail
      refine (net_Take F g x o.a w3 hN3 (by omega)).mono ?_
      rintro e w5 ⟨lx, code, rfl, _, _, hres, hN5, hf5⟩
      obtain ⟨i1, i2, i4, i5⟩ := inv_take (i := o.a) HI.out hN3.len.symm
      have hx5 : Ext w w5 := hf5.below hx3 hx3.size hF
      have hcode : (thereB x.n o.a = true ∧ code ≠ 1) ∨ (thereB x.n o.a = false ∧ code = 1) := by
        rcases hres with ⟨h1, _, h2⟩ | ⟨h1, ms, h2⟩
        · exact .inr ⟨h1, h2⟩
        · exact .inl ⟨h1, h2.one⟩
      have HI5 := Lib.hid i1
      have i3 : (x.take o.a).sent ≤ x.sent := by omega
      clear i1 i2 hres hf5 hN3 d0 d1 d2 d3 ha7
      generalize x.take o.a = x5 at *
      unfold LV.val
      go_upto_region 18 with fail
      have xal : Ext w5 (w5.alloc (.cells #[.int .i64 lx.kind, .int .i64 lx.src, .int .i64 lx.dst, .int .i64 lx.term, .int .i64 lx.a, .int .i64 lx.b, .int .i64 lx.c, .int .i64 lx.bin, .bool lx.ok, .slice lx.A lx.n lx.cp] 26)) := (Ext.refl w5).alloc _
      have hN6 := IsNet.ext hN5 xal
      have hx6 : Ext w (w5.alloc (.cells #[.int .i64 lx.kind, .int .i64 lx.src, .int .i64 lx.dst, .int .i64 lx.term, .int .i64 lx.a, .int .i64 lx.b, .int .i64 lx.c, .int .i64 lx.bin, .bool lx.ok, .slice lx.A lx.n lx.cp] 26)) := hx5.trans xal
      generalize w5.alloc (.cells #[.int .i64 lx.kind, .int .i64 lx.src, .int .i64 lx.dst, .int .i64 lx.term, .int .i64 lx.a, .int .i64 lx.b, .int .i64 lx.c, .int .i64 lx.bin, .bool lx.ok, .slice lx.A lx.n lx.cp] 26) = W6 at *
      have hL6 := Lib.hid (net_Len F g x5 W6 hN6)
      have HN6 := Lib.hid hN6
      clear hN5 hx5 xal hN6
      rcases hcode with ⟨h1, h2⟩ | ⟨h1, h2⟩
      · have hn5 := i4 h1
        have t1 := bne_t (show ((code : Nat) : Int) ≠ 1 by omega)
        have t2 := beq_t (show ((x5.n : Nat) : Int) = (x.n : Int) - 1 by omega)
        have HN5 := Lib.hid hn5
        have hN5 := HN6.out
        clear h1 h2 i4 i5 hn5
        go_wp2_with fail
        refine hL6.out.mono ?_
        rintro e w7 ⟨rfl, hw7⟩
        subst w7
        clear hL6
        go_wp2_with fail
        refine (net_Counts F g x5 _ hN5).mono ?_
        rintro e w9 ⟨rfl, nd, rfl⟩
        have hNd := IsNet.ext hN5 ((Ext.refl _).drewN nd)
        have hxd := hx6.drewN nd
        have hL9 := Lib.hid (net_Len F g x5 _ hNd)
        have hsm := HI5.out
        unfold NetV.Inv at hsm
        have b1 := hNd.t0
        have b2 := hNd.l0
        have b3 := hNd.few
        have hsum := bne_f (show x5.sent = x5.taken + x5.lost + x5.n by omega)
        have hbig := dec_f (show ¬ ((256 : Int) < x5.n) by omega)
        have HND := Lib.hid hNd
        clear hNd hsm hN5
        go_wp2_with fail
        refine hL9.out.mono ?_
        rintro e w10 ⟨rfl, hw10⟩
        subst w10
        go_wp2_with fail
        refine hL9.out.mono ?_
        rintro e w10 ⟨rfl, hw10⟩
        subst w10
        go_wp2_with fail
        go_roundw
        case rel => exact ⟨j + 1, val_int (by omega), by omega, by omega, ⟨x5, F, HND.out, hF, HI5, by omega⟩, hxd⟩
        case measure => simp [intOf]; omega
      · have hn5 := i5 h1
        have t1 := bne_f (show ((code : Nat) : Int) = 1 by omega)
        have t2 := beq_f (show ((x5.n : Nat) : Int) ≠ (x.n : Int) - 1 by omega)
        have HN5 := Lib.hid hn5
        have hN5 := HN6.out
        clear h1 h2 i4 i5 hn5
        go_wp2_with fail
        refine hL6.out.mono ?_
        rintro e w7 ⟨rfl, hw7⟩
        subst w7
        clear hL6
        go_wp2_with fail
        refine (net_Counts F g x5 _ hN5).mono ?_
        rintro e w9 ⟨rfl, nd, rfl⟩
        have hNd := IsNet.ext hN5 ((Ext.refl _).drewN nd)
        have hxd := hx6.drewN nd
        have hL9 := Lib.hid (net_Len F g x5 _ hNd)
        have hsm := HI5.out
        unfold NetV.Inv at hsm
        have b1 := hNd.t0
        have b2 := hNd.l0
        have b3 := hNd.few
        have hsum := bne_f (show x5.sent = x5.taken + x5.lost + x5.n by omega)
        have hbig := dec_f (show ¬ ((256 : Int) < x5.n) by omega)
        have HND := Lib.hid hNd
        clear hNd hsm hN5
        go_wp2_with fail
        refine hL9.out.mono ?_
        rintro e w10 ⟨rfl, hw10⟩
        subst w10
        go_wp2_with fail
        refine hL9.out.mono ?_
        rintro e w10 ⟨rfl, hw10⟩
        subst w10
        go_wp2_with fail
        go_roundw
        case rel => exact ⟨j + 1, val_int (by omega), by omega, by omega, ⟨x5, F, HND.out, hF, HI5, by omega⟩, hxd⟩
        case measure => simp [intOf]; omega
    · have hqv : o.kind % 8 = 2 := by omega
      rw [hqv] at ha7
      clear hqv
      go_wp2_with fail
      refine (net_Drop F g x o.a w3 hN3 (by omega)).mono ?_
      rintro e w5 ⟨rfl, hN5, hf5⟩
      obtain ⟨i1, i2, i4, i5⟩ := inv_drop (i := o.a) HI.out
      have hx5 : Ext w w5 := hf5.below hx3 hx3.size hF
      have HI5 := Lib.hid i1
      have i3 : (x.drop o.a).sent ≤ x.sent := by omega
      have hcc : thereC x.n o.a = 0 ∨ thereC x.n o.a = 1 := by rcases there_cases x.n o.a with ⟨_, h, _⟩ | ⟨_, h⟩ <;> simp [h]
      clear i1 i2 hf5 hN3 d0 d1 d2 d3 ha7
      generalize x.drop o.a = x5 at *
      generalize thereC x.n o.a = ecc at *
      have hL6 := Lib.hid (net_Len F g x5 w5 hN5)
      have HN6 := Lib.hid hN5
      clear hN5
      rcases hcc with h1 | h1
      · have hn5 := i4 h1
        subst h1
        have t1 := show ((0 : Int) == 0) = true from rfl
        have t2 := beq_t (show ((x5.n : Nat) : Int) = (x.n : Int) - 1 by omega)
        have hN5 := HN6.out
        clear i4 i5
        go_wp2_with fail
        refine hL6.out.mono ?_
        rintro e w7 ⟨rfl, hw7⟩
        subst w7
        clear hL6
        go_wp2_with fail
        refine (net_Counts F g x5 _ hN5).mono ?_
        rintro e w9 ⟨rfl, nd, rfl⟩
        have hNd := IsNet.ext hN5 ((Ext.refl _).drewN nd)
        have hxd := hx5.drewN nd
        have hL9 := Lib.hid (net_Len F g x5 _ hNd)
        have hsm := HI5.out
        unfold NetV.Inv at hsm
        have b1 := hNd.t0
        have b2 := hNd.l0
        have b3 := hNd.few
        have hsum := bne_f (show x5.sent = x5.taken + x5.lost + x5.n by omega)
        have hbig := dec_f (show ¬ ((256 : Int) < x5.n) by omega)
        have HND := Lib.hid hNd
        clear hNd hsm hN5
        go_wp2_with fail
        refine hL9.out.mono ?_
        rintro e w10 ⟨rfl, hw10⟩
        subst w10
        go_wp2_with fail
        refine hL9.out.mono ?_
        rintro e w10 ⟨rfl, hw10⟩
        subst w10
        go_wp2_with fail
        go_roundw
        case rel => exact ⟨j + 1, val_int (by omega), by omega, by omega, ⟨x5, F, HND.out, hF, HI5, by omega⟩, hxd⟩
        case measure => simp [intOf]; omega
      · have hn5 := i5 h1
        subst h1
        have HEQ : Hid ((1 : Int) = 1 → x5.n = x.n) := Lib.hid (fun _ => hn5)
        have hnn := bne_f (show ((x5.n : Nat) : Int) = (x.n : Nat) by rw [hn5])
        have t2 := beq_f (show ((x5.n : Nat) : Int) ≠ (x.n : Int) - 1 by omega)
        have hN5 := HN6.out
        clear i4 i5 hn5
        go_wp2_with fail
        refine hL6.out.mono ?_
        rintro e w7 ⟨rfl, hw7⟩
        subst w7
        clear hL6
        go_wp2_with fail
        refine (net_Counts F g x5 _ hN5).mono ?_
        rintro e w9 ⟨rfl, nd, rfl⟩
        have hNd := IsNet.ext hN5 ((Ext.refl _).drewN nd)
        have hxd := hx5.drewN nd
        have hL9 := Lib.hid (net_Len F g x5 _ hNd)
        have hsm := HI5.out
        unfold NetV.Inv at hsm
        have b1 := hNd.t0
        have b2 := hNd.l0
        have b3 := hNd.few
        have hsum := bne_f (show x5.sent = x5.taken + x5.lost + x5.n by omega)
        have hbig := dec_f (show ¬ ((256 : Int) < x5.n) by omega)
        have HND := Lib.hid hNd
        clear hNd hsm hN5
        go_wp2_with fail
        refine hL9.out.mono ?_
        rintro e w10 ⟨rfl, hw10⟩
        subst w10
        go_wp2_with fail
        refine hL9.out.mono ?_
        rintro e w10 ⟨rfl, hw10⟩
        subst w10
        go_wp2_with fail
        refine hL9.out.mono ?_
        rintro e w10 ⟨rfl, hw10⟩
        subst w10
        go_wp2_with fail
        go_roundw
        case rel => exact ⟨j + 1, val_int (by omega), by omega, by omega, ⟨x5, F, HND.out, hF, HI5, by omega⟩, hxd⟩
        case measure => simp [intOf]; omega
    · have hqv : o.kind % 8 = 3 := by omega
      rw [hqv] at ha7
      clear hqv
      go_wp2_with fail
      refine (net_Twice F g x o.a w3 hN3 (by omega)).mono ?_
      rintro e w5 ⟨x5, F5, rfl, hN5, hp5, hF5, hf5⟩
      obtain ⟨i1, i4, i5, i3⟩ := inv_twice hN3 hN5 hp5 HI.out
      have hFb5 : ∀ k, F5 k = true → w.heap.size ≤ k := fun k hk => by
        by_cases h : k < w3.heap.size
        · rw [hF5 k h] at hk; exact hF k hk
        · have := hx3.size; omega
      have hx5 : Ext w w5 := hf5.below hx3 hx3.size hF
      have HI5 := Lib.hid i1
      clear i1 hp5 hF5 hf5 hN3 d0 d1 d2 d3 ha7
      generalize twiceC x.n o.a = ecc at *
      have hL6 := Lib.hid (net_Len F5 g x5 w5 hN5)
      have HN6 := Lib.hid hN5
      clear hN5
      by_cases h1 : ecc = 0
      · have hn5 := i4 h1
        subst h1
        have t2 := beq_t (show ((x5.n : Nat) : Int) = (x.n : Int) + 1 by omega)
        have HN5 := Lib.hid hn5
        have hN5 := HN6.out
        clear i4 i5 hn5
        go_wp2_with fail
        refine hL6.out.mono ?_
        rintro e w7 ⟨rfl, hw7⟩
        subst w7
        clear hL6
        go_wp2_with fail
        refine (net_Counts F5 g x5 _ hN5).mono ?_
        rintro e w9 ⟨rfl, nd, rfl⟩
        have hNd := IsNet.ext hN5 ((Ext.refl _).drewN nd)
        have hxd := hx5.drewN nd
        have hL9 := Lib.hid (net_Len F5 g x5 _ hNd)
        have hsm := HI5.out
        unfold NetV.Inv at hsm
        have b1 := hNd.t0
        have b2 := hNd.l0
        have b3 := hNd.few
        have hsum := bne_f (show x5.sent = x5.taken + x5.lost + x5.n by omega)
        have hbig := dec_f (show ¬ ((256 : Int) < x5.n) by omega)
        have HND := Lib.hid hNd
        clear hNd hsm hN5
        go_wp2_with fail
        refine hL9.out.mono ?_
        rintro e w10 ⟨rfl, hw10⟩
        subst w10
        go_wp2_with fail
        refine hL9.out.mono ?_
        rintro e w10 ⟨rfl, hw10⟩
        subst w10
        go_wp2_with fail
        go_roundw
        case rel => exact ⟨j + 1, val_int (by omega), by omega, by omega, ⟨x5, F5, HND.out, hFb5, HI5, by omega⟩, hxd⟩
        case measure => simp [intOf]; omega
      · have hn5 := i5 h1
        have t1 := beq_f h1
        have t2 := beq_f (show ((x5.n : Nat) : Int) ≠ (x.n : Int) + 1 by omega)
        have HEQ : Hid (ecc = 1 → x5.n = x.n) := Lib.hid (fun _ => hn5)
        have hN5 := HN6.out
        clear i4 i5 hn5 h1
        go_wp2_with fail
        refine hL6.out.mono ?_
        rintro e w7 ⟨rfl, hw7⟩
        subst w7
        clear hL6
        go_wp2_with fail
        refine (net_Counts F5 g x5 _ hN5).mono ?_
        rintro e w9 ⟨rfl, nd, rfl⟩
        have hNd := IsNet.ext hN5 ((Ext.refl _).drewN nd)
        have hxd := hx5.drewN nd
        have hL9 := Lib.hid (net_Len F5 g x5 _ hNd)
        have hsm := HI5.out
        unfold NetV.Inv at hsm
        have b1 := hNd.t0
        have b2 := hNd.l0
        have b3 := hNd.few
        have hsum := bne_f (show x5.sent = x5.taken + x5.lost + x5.n by omega)
        have hbig := dec_f (show ¬ ((256 : Int) < x5.n) by omega)
        have HND := Lib.hid hNd
        clear hNd hsm hN5
        go_wp2_with fail
        refine hL9.out.mono ?_
        rintro e w10 ⟨rfl, hw10⟩
        subst w10
        go_wp2_with fail
        refine hL9.out.mono ?_
        rintro e w10 ⟨rfl, hw10⟩
        subst w10
        by_cases hec : ecc = 1
        · have hnn := bne_f (show ((x5.n : Nat) : Int) = (x.n : Nat) by rw [HEQ.out hec])
          have hec' := beq_t hec
          clear hec
          go_wp2_with fail
          refine hL9.out.mono ?_
          rintro e w10 ⟨rfl, hw10⟩
          subst w10
          go_wp2_with fail
          go_roundw
          case rel => exact ⟨j + 1, val_int (by omega), by omega, by omega, ⟨x5, F5, HND.out, hFb5, HI5, by omega⟩, hxd⟩
          case measure => simp [intOf]; omega
        · have hec' := beq_f hec
          clear hec
          go_wp2_with fail
          go_roundw
          case rel => exact ⟨j + 1, val_int (by omega), by omega, by omega, ⟨x5, F5, HND.out, hFb5, HI5, by omega⟩, hxd⟩
          case measure => simp [intOf]; omega
    · have hqv : o.kind % 8 = 4 := by omega
      rw [hqv] at ha7
      clear hqv
      go_wp2_with fail
      refine (net_Turn F g x o.a o.b o.c w3 hN3).mono ?_
      rintro e w5 ⟨rfl, hN5, hf5⟩
      obtain ⟨i1, i2, i4⟩ := inv_turn (i := o.a) (p := o.b) (b := o.c) HI.out
      have hx5 : Ext w w5 := hf5.below hx3 hx3.size hF
      have HI5 := Lib.hid i1
      have i3 : (x.turn o.a o.b o.c).sent ≤ x.sent := by omega
      clear i1 i2 hf5 hN3 d0 d1 d2 d3 ha7
      generalize x.turn o.a o.b o.c = x5 at *
      generalize turnC x o.a o.b = ecc at *
      have HEQ : Hid (ecc = 1 → x5.n = x.n) := Lib.hid (fun _ => i4)
      clear i4
      go_wp2_with fail
      refine (net_Counts F g x5 _ hN5).mono ?_
      rintro e w9 ⟨rfl, nd, rfl⟩
      have hNd := IsNet.ext hN5 ((Ext.refl _).drewN nd)
      have hxd := hx5.drewN nd
      have hL9 := Lib.hid (net_Len F g x5 _ hNd)
      have hsm := HI5.out
      unfold NetV.Inv at hsm
      have b1 := hNd.t0
      have b2 := hNd.l0
      have b3 := hNd.few
      have hsum := bne_f (show x5.sent = x5.taken + x5.lost + x5.n by omega)
      have hbig := dec_f (show ¬ ((256 : Int) < x5.n) by omega)
      have HND := Lib.hid hNd
      clear hNd hsm hN5
      go_wp2_with fail
      refine hL9.out.mono ?_
      rintro e w10 ⟨rfl, hw10⟩
      subst w10
      go_wp2_with fail
      refine hL9.out.mono ?_
      rintro e w10 ⟨rfl, hw10⟩
      subst w10
      by_cases hec : ecc = 1
      · have hnn := bne_f (show ((x5.n : Nat) : Int) = (x.n : Nat) by rw [HEQ.out hec])
        have hec' := beq_t hec
        clear hec
        go_wp2_with fail
        refine hL9.out.mono ?_
        rintro e w10 ⟨rfl, hw10⟩
        subst w10
        go_wp2_with fail
        go_roundw
        case rel => exact ⟨j + 1, val_int (by omega), by omega, by omega, ⟨x5, F, HND.out, hF, HI5, by omega⟩, hxd⟩
        case measure => simp [intOf]; omega
      · have hec' := beq_f hec
        clear hec
        go_wp2_with fail
        go_roundw
        case rel => exact ⟨j + 1, val_int (by omega), by omega, by omega, ⟨x5, F, HND.out, hF, HI5, by omega⟩, hxd⟩
        case measure => simp [intOf]; omega
    · have hqv : o.kind % 8 = 5 := by omega
      rw [hqv] at ha7
      clear hqv
      go_wp2_with fail
      refine (net_Send F g x A3 ls.length c3 ls w3 hN3 HTS.out (by omega) (fun y hy => by have := HFEW.out y hy; omega) (by omega) (by omega)).mono ?_
      rintro e w5 ⟨x5, F5, rfl, hN5, hp5, hF5, hf5⟩
      obtain ⟨i1, i2, i3⟩ := inv_send hN3 hN5 hp5 HI.out
      have HI5 := Lib.hid i1
      have HEQ := Lib.hid i2
      have hFb5 : ∀ k, F5 k = true → w.heap.size ≤ k := fun k hk => by
        by_cases h : k < w3.heap.size
        · rw [hF5 k h] at hk; exact hF k hk
        · have := hx3.size; omega
      have hx5 : Ext w w5 := hf5.below hx3 hx3.size hF
      clear i1 i2 hp5 hF5 hf5 hN3 d0 d1 d2 d3 ha7
      generalize sendC x.n ls = ecc at *
      go_wp2_with fail
      refine (net_Counts F5 g x5 _ hN5).mono ?_
      rintro e w9 ⟨rfl, nd, rfl⟩
      have hNd := IsNet.ext hN5 ((Ext.refl _).drewN nd)
      have hxd := hx5.drewN nd
      have hL9 := Lib.hid (net_Len F5 g x5 _ hNd)
      have hsm := HI5.out
      unfold NetV.Inv at hsm
      have b1 := hNd.t0
      have b2 := hNd.l0
      have b3 := hNd.few
      have hsum := bne_f (show x5.sent = x5.taken + x5.lost + x5.n by omega)
      have hbig := dec_f (show ¬ ((256 : Int) < x5.n) by omega)
      have HND := Lib.hid hNd
      clear hNd hsm hN5
      go_wp2_with fail
      refine hL9.out.mono ?_
      rintro e w10 ⟨rfl, hw10⟩
      subst w10
      go_wp2_with fail
      refine hL9.out.mono ?_
      rintro e w10 ⟨rfl, hw10⟩
      subst w10
      by_cases hec : ecc = 1
      · have hnn := bne_f (show ((x5.n : Nat) : Int) = (x.n : Nat) by rw [HEQ.out hec])
        have hec' := beq_t hec
        clear hec
        go_wp2_with fail
        refine hL9.out.mono ?_
        rintro e w10 ⟨rfl, hw10⟩
        subst w10
        go_wp2_with fail
        go_roundw
        case rel => exact ⟨j + 1, val_int (by omega), by omega, by omega, ⟨x5, F5, HND.out, hFb5, HI5, by omega⟩, hxd⟩
        case measure => simp [intOf]; omega
      · have hec' := beq_f hec
        clear hec
        go_wp2_with fail
        go_roundw
        case rel => exact ⟨j + 1, val_int (by omega), by omega, by omega, ⟨x5, F5, HND.out, hFb5, HI5, by omega⟩, hxd⟩
        case measure => simp [intOf]; omega
    · have hqr : o.kind % 8 = 6 ∨ o.kind % 8 = 7 := by omega
      have HI5 := HI
      have i3 : x.sent ≤ x.sent := Int.le_refl _
      rcases hqr with hqv | hqv
      all_goals
        rw [hqv] at ha7
        clear hqv hq
        go_wp2_with fail
        refine (net_Counts F g x _ hN3).mono ?_
        rintro e w9 ⟨rfl, nd, rfl⟩
        have hNd := IsNet.ext hN3 ((Ext.refl _).drewN nd)
        have hxd := hx3.drewN nd
        have hL9 := Lib.hid (net_Len F g x _ hNd)
        have hsm := HI5.out
        unfold NetV.Inv at hsm
        have b1 := hNd.t0
        have b2 := hNd.l0
        have b3 := hNd.few
        have hsum := bne_f (show x.sent = x.taken + x.lost + x.n by omega)
        have hbig := dec_f (show ¬ ((256 : Int) < x.n) by omega)
        have HND := Lib.hid hNd
        clear hNd hsm hN3
        go_wp2_with fail
        refine hL9.out.mono ?_
        rintro e w10 ⟨rfl, hw10⟩
        subst w10
        go_wp2_with fail
        refine hL9.out.mono ?_
        rintro e w10 ⟨rfl, hw10⟩
        subst w10
        go_wp2_with fail
        go_roundw
        case rel => exact ⟨j + 1, val_int (by omega), by omega, by omega, ⟨x, F, HND.out, hF, HI5, by omega⟩, hxd⟩
        case measure => simp [intOf]; omega
end Go.Proofs.Ytcoaofaofmbfbaa
