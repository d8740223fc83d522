/- The walk of coracleref07.May. (Printed by wip/tools/strefmay.py.) -/
import Derived.Test.YtiildgoaiookhaaStR
namespace Go.Proofs.Ytiildgoaiookhaa
open Go.RowKit

/-- may a thing stand behind another one -/
def rsB {α : Type} (key : α → Int) (p : Option α) (x : α) : Bool := match p with | none => true | some y => decide (key y < key x)
/-- the reference's look at a row -/
def chkR {α : Type} (key : α → Int) (one : α → Bool) : Option α → List α → Bool
  | _, [] => true
  | p, x :: r => (one x && rsB key p x) && chkR key one (some x) r
theorem chkR_nil {α : Type} (key : α → Int) (one : α → Bool) (p : Option α) : chkR key one p [] = true := by cases p <;> rfl
theorem chkR_cons {α : Type} (key : α → Int) (one : α → Bool) (p : Option α) (x : α) (r : List α) : chkR key one p (x :: r) = ((one x && rsB key p x) && chkR key one (some x) r) := by cases p <;> rfl
def sesOne (x : CV) : Bool := inI x.client 1 8 && (inI x.seq 0 1048576 && (inI x.code 0 99 && inI x.n 0 1048576))
def opsOne (x : OV) : Bool := inI x.set 1 8 && inI x.client 1 8
def nbR (s : KV) (ver : Int) : Bool := inI s.ver 1 3 && (inI s.next 1 1048576 && (inI s.keep 0 8 && (inI s.quota 0 64 && ((decide (s.quota = 0) || decide (3 ≤ ver)) && decide (s.n3 ≤ 16)))))
def kmayR (s : KV) (ver nx : Int) : Nat := if inI ver 1 3 = false then 1 else codeB (((nbR s ver && chkR CV.client sesOne none s.ses) && chkR OV.set opsOne none s.ops) && chkR NV.id (snR ver nx) none s.sns)
theorem prev_at {α : Type} (l : List α) (i : Nat) (h : i < l.length) : (if i + 1 = 0 then none else l[i + 1 - 1]?) = some l[i] := by
  rw [if_neg (by omega), show i + 1 - 1 = i by omega]; exact List.getElem?_eq_getElem h

set_option maxRecDepth 100000 in
set_option maxHeartbeats 6400000 in
theorem ref07_May (s : KV) (ver nx : Int) (w : World) (hs : s.Ok w) (hn1 : s.n1 ≤ 1000000) (hn2 : s.n2 ≤ 1000000) (hn3 : s.n3 ≤ 1000000) (hl : ∀ f ∈ s.sns, f.len ≤ 1000000) (hnx : IntKind.i64.wrap (s.next - 1) = nx) :
    Calls Try.prog 22 #[s.val, .int .i64 ver] w fun e w' => e = .returned (.int .i64 (kmayR s ver nx)) ∧ Ext w w' := by
  have ht1 := hs.t1
  have ht2 := hs.t2
  have ht3 := hs.t3
  have hu := fun (f : CV) (hf : f ∈ s.ses) => (hs.t1.ok f hf : CV.Ok f w)
  clear hs
  unfold kmayR nbR
  obtain ⟨ver_, next, keep, quota, A1, n1, cc1, ses, A2, n2, cc2, ops, A3, n3, cc3, sns⟩ := s
  unfold KV.val
  dsimp only at hn1 hn2 hn3 hl hnx ht1 ht2 ht3 hu ⊢
  have hl1 := ht1.len
  have hl2 := ht2.len
  have hl3 := ht3.len
  have Hu := Lib.hid hu
  have Hl := Lib.hid hl
  have Hnx := Lib.hid hnx
  clear hu hl hnx
  have hB0 := Blk.new w 26 [.int .i64 ver_, .int .i64 next, .int .i64 keep, .int .i64 quota, .slice A1 n1 cc1, .slice A2 n2 cc2, .slice A3 n3 cc3]
  have xa : Ext w (w.alloc (.cells #[.int .i64 ver_, .int .i64 next, .int .i64 keep, .int .i64 quota, .slice A1 n1 cc1, .slice A2 n2 cc2, .slice A3 n3 cc3] 26)) := (Ext.refl w).alloc _
  have HW0 := Lib.hid (fun b hb w => ref07_in ver 1 3 b hb w)
  rcases hv : inI ver 1 3 with _ | _
  · have H := Lib.hid (HW0.out _ hv)
    simp only [if_true]
    clear HW0 hv
    go_enter Try.func22, Try.ntmps22
    go_wp2_with (go_at_call 56; refine (H.out _).mono ?_; rintro e w1 ⟨rfl, rfl⟩)
    go_ret
    exact ⟨rfl, xa⟩
  have H := Lib.hid (HW0.out _ hv)
  rw [if_neg (show ¬ true = false by simp)]
  clear HW0 hv
  go_enter Try.func22, Try.ntmps22
  go_upto_region 3 with (go_at_call 56; refine (H.out _).mono ?_; rintro e w1 ⟨rfl, rfl⟩)
  generalize (w.alloc (.cells #[.int .i64 ver_, .int .i64 next, .int .i64 keep, .int .i64 quota, .slice A1 n1 cc1, .slice A2 n2 cc2, .slice A3 n3 cc3] 26)) = W0 at *
  clear H
  have N1 := Lib.hid (fun b hb w => ref07_in ver_ 1 3 b hb w)
  have N2 := Lib.hid (fun b hb w => ref07_in next 1 1048576 b hb w)
  have N3 := Lib.hid (fun b hb w => ref07_in keep 0 8 b hb w)
  have N4 := Lib.hid (fun b hb w => ref07_in quota 0 64 b hb w)
  generalize e1 : inI ver_ 1 3 = b1 at *
  generalize e2 : inI next 1 1048576 = b2 at *
  generalize e3 : inI keep 0 8 = b3 at *
  generalize e4 : inI quota 0 64 = b4 at *
  have EE : Hid ((inI ver_ 1 3 && (inI next 1 1048576 && (inI keep 0 8 && (inI quota 0 64 && ((decide (quota = 0) || decide (3 ≤ ver)) && decide (n3 ≤ 16)))))) = (b1 && (b2 && (b3 && (b4 && ((decide (quota = 0) || decide (3 ≤ ver)) && decide (n3 ≤ 16))))))) := Lib.hid (by rw [e1, e2, e3, e4])
  clear e1 e2 e3 e4
  have HC := Lib.hid (fun (w' : World) (h : Ext W0 w') (i : Nat) => (hB0.ext h).cell i)
  have d0 := hB0.cell 0
  have d1 := hB0.cell 1
  have d2 := hB0.cell 2
  have d3 := hB0.cell 3
  have d6 := hB0.cell 6
  simp only [List.getElem?_cons_zero, List.getElem?_cons_succ] at d0 d1 d2 d3 d6
  clear hB0
  go_cut [5] (fun s5 wx => s5 = .bool (b1 && (b2 && (b3 && (b4 && ((decide (quota = 0) || decide (3 ≤ ver)) && decide (n3 ≤ 16)))))) ∧ W0 = wx)
  case first =>
    clear EE HC ht1 ht2 ht3 hl1 hl2 hl3
    rcases b1 with _ | _
    · have M1 := Lib.hid (N1.out _ rfl)
      clear N1 N2 N3 N4
      go_wp2_with (first | (go_at_call 56; ((with_reducible refine (M1.out _).mono ?_); rintro e w1 ⟨rfl, rfl⟩)))
      go_meet
      exact ⟨rfl, rfl⟩
    have M1 := Lib.hid (N1.out _ rfl)
    rcases b2 with _ | _
    · have M2 := Lib.hid (N2.out _ rfl)
      clear N1 N2 N3 N4
      go_wp2_with (first | (go_at_call 56; ((with_reducible refine (M1.out _).mono ?_); rintro e w1 ⟨rfl, rfl⟩)) | (go_at_call 56; ((with_reducible refine (M2.out _).mono ?_); rintro e w1 ⟨rfl, rfl⟩)))
      go_meet
      exact ⟨rfl, rfl⟩
    have M2 := Lib.hid (N2.out _ rfl)
    rcases b3 with _ | _
    · have M3 := Lib.hid (N3.out _ rfl)
      clear N1 N2 N3 N4
      go_wp2_with (first | (go_at_call 56; ((with_reducible refine (M1.out _).mono ?_); rintro e w1 ⟨rfl, rfl⟩)) | (go_at_call 56; ((with_reducible refine (M2.out _).mono ?_); rintro e w1 ⟨rfl, rfl⟩)) | (go_at_call 56; ((with_reducible refine (M3.out _).mono ?_); rintro e w1 ⟨rfl, rfl⟩)))
      go_meet
      exact ⟨rfl, rfl⟩
    have M3 := Lib.hid (N3.out _ rfl)
    rcases b4 with _ | _
    · have M4 := Lib.hid (N4.out _ rfl)
      clear N1 N2 N3 N4
      go_wp2_with (first | (go_at_call 56; ((with_reducible refine (M1.out _).mono ?_); rintro e w1 ⟨rfl, rfl⟩)) | (go_at_call 56; ((with_reducible refine (M2.out _).mono ?_); rintro e w1 ⟨rfl, rfl⟩)) | (go_at_call 56; ((with_reducible refine (M3.out _).mono ?_); rintro e w1 ⟨rfl, rfl⟩)) | (go_at_call 56; ((with_reducible refine (M4.out _).mono ?_); rintro e w1 ⟨rfl, rfl⟩)))
      go_meet
      exact ⟨rfl, rfl⟩
    have M4 := Lib.hid (N4.out _ rfl)
    clear N1 N2 N3 N4
    by_cases hq : quota = 0
    · subst hq
      by_cases h16 : n3 ≤ 16
      · have k := dec_t (show (n3 : Int) ≤ 16 by omega)
        have Hh := Lib.hid h16
        clear h16
        go_wp2_with (first | (go_at_call 56; ((with_reducible refine (M1.out _).mono ?_); rintro e w1 ⟨rfl, rfl⟩)) | (go_at_call 56; ((with_reducible refine (M2.out _).mono ?_); rintro e w1 ⟨rfl, rfl⟩)) | (go_at_call 56; ((with_reducible refine (M3.out _).mono ?_); rintro e w1 ⟨rfl, rfl⟩)) | (go_at_call 56; ((with_reducible refine (M4.out _).mono ?_); rintro e w1 ⟨rfl, rfl⟩)))
        go_meet
        exact ⟨by rw [dec_t Hh.out] <;> rfl, rfl⟩
      · have k := dec_f (show ¬ (n3 : Int) ≤ 16 by omega)
        have Hh := Lib.hid h16
        clear h16
        go_wp2_with (first | (go_at_call 56; ((with_reducible refine (M1.out _).mono ?_); rintro e w1 ⟨rfl, rfl⟩)) | (go_at_call 56; ((with_reducible refine (M2.out _).mono ?_); rintro e w1 ⟨rfl, rfl⟩)) | (go_at_call 56; ((with_reducible refine (M3.out _).mono ?_); rintro e w1 ⟨rfl, rfl⟩)) | (go_at_call 56; ((with_reducible refine (M4.out _).mono ?_); rintro e w1 ⟨rfl, rfl⟩)))
        go_meet
        exact ⟨by rw [dec_f Hh.out] <;> rfl, rfl⟩
    have hq' := beq_f hq
    have Hq := Lib.hid hq
    clear hq
    by_cases h3 : 3 ≤ ver
    · have k3 := dec_t h3
      have H3 := Lib.hid h3
      clear h3
      by_cases h16 : n3 ≤ 16
      · have k := dec_t (show (n3 : Int) ≤ 16 by omega)
        have Hh := Lib.hid h16
        clear h16
        go_wp2_with (first | (go_at_call 56; ((with_reducible refine (M1.out _).mono ?_); rintro e w1 ⟨rfl, rfl⟩)) | (go_at_call 56; ((with_reducible refine (M2.out _).mono ?_); rintro e w1 ⟨rfl, rfl⟩)) | (go_at_call 56; ((with_reducible refine (M3.out _).mono ?_); rintro e w1 ⟨rfl, rfl⟩)) | (go_at_call 56; ((with_reducible refine (M4.out _).mono ?_); rintro e w1 ⟨rfl, rfl⟩)))
        go_meet
        exact ⟨by rw [dec_t Hh.out, dec_f Hq.out, dec_t H3.out] <;> rfl, rfl⟩
      · have k := dec_f (show ¬ (n3 : Int) ≤ 16 by omega)
        have Hh := Lib.hid h16
        clear h16
        go_wp2_with (first | (go_at_call 56; ((with_reducible refine (M1.out _).mono ?_); rintro e w1 ⟨rfl, rfl⟩)) | (go_at_call 56; ((with_reducible refine (M2.out _).mono ?_); rintro e w1 ⟨rfl, rfl⟩)) | (go_at_call 56; ((with_reducible refine (M3.out _).mono ?_); rintro e w1 ⟨rfl, rfl⟩)) | (go_at_call 56; ((with_reducible refine (M4.out _).mono ?_); rintro e w1 ⟨rfl, rfl⟩)))
        go_meet
        exact ⟨by rw [dec_f Hh.out, dec_f Hq.out, dec_t H3.out] <;> rfl, rfl⟩
    · have k3 := dec_f h3
      have H3 := Lib.hid h3
      clear h3
      go_wp2_with (first | (go_at_call 56; ((with_reducible refine (M1.out _).mono ?_); rintro e w1 ⟨rfl, rfl⟩)) | (go_at_call 56; ((with_reducible refine (M2.out _).mono ?_); rintro e w1 ⟨rfl, rfl⟩)) | (go_at_call 56; ((with_reducible refine (M3.out _).mono ?_); rintro e w1 ⟨rfl, rfl⟩)) | (go_at_call 56; ((with_reducible refine (M4.out _).mono ?_); rintro e w1 ⟨rfl, rfl⟩)))
      go_meet
      exact ⟨by rw [dec_f Hq.out, dec_f (show ¬ 3 ≤ ver by have := H3.out; omega)] <;> rfl, rfl⟩
  case rest =>
    obtain ⟨rfl, rfl⟩ := hcut
    clear N1 N2 N3 N4 d0 d1 d2 d3 d6
    generalize (b1 && (b2 && (b3 && (b4 && ((decide (quota = 0) || decide (3 ≤ ver)) && decide (n3 ≤ 16)))))) = nb at *
    have d4 := HC.out _ (Ext.refl W0) 4
    simp only [List.getElem?_cons_zero, List.getElem?_cons_succ] at d4
    go_wp2_with fail
    clear d4
    go_loopw [5, 6] (fun q5 q6 wr => ∃ (j : Nat) (b : Bool), q6 = .int .i64 j ∧ q5 = .bool b ∧ j ≤ n1 ∧ (nb && chkR CV.client sesOne none ses) = (b && chkR CV.client sesOne (if j = 0 then none else ses[j - 1]?) (ses.drop j)) ∧ Ext W0 wr) (fun _ q6 _ => n1 - (intOf q6).toNat)
    case atStart => exact ⟨0, nb, rfl, rfl, by omega, rfl, Ext.refl W0⟩
    case round =>
      obtain ⟨j, b, rfl, rfl, hj, hf, hx⟩ := hrel
      have d4 := HC.out _ hx 4
      simp only [List.getElem?_cons_zero, List.getElem?_cons_succ] at d4
      by_cases hjn : j < n1
      · have hjl : j < ses.length := by omega
        obtain ⟨bb, off, rfl, hlt, hc⟩ := (ht1.ext (xa.trans hx)).at_ hjn
        have hcode := (Hu.out ses[j] (List.getElem_mem _)).u2.wrap
        have HN : Hid ((if j + 1 = 0 then none else ses[j + 1 - 1]?) = some ses[j]) := Lib.hid (prev_at ses j hjl)
        rw [List.drop_eq_getElem_cons hjl, chkR_cons] at hf
        generalize ses[j] = f at *
        have c0 : wr.cell? ⟨bb, off + j * 4, none⟩ = some (.int .i64 f.client) := hc 0 (by omega)
        have c1 : wr.cell? ⟨bb, off + j * 4 + 1, none⟩ = some (.int .i64 f.seq) := hc 1 (by omega)
        have c2 : wr.cell? ⟨bb, off + j * 4 + 2, none⟩ = some (.int .i64 f.code) := hc 2 (by omega)
        have c3 : wr.cell? ⟨bb, off + j * 4 + 3, none⟩ = some (.int .i64 f.n) := hc 3 (by omega)
        have hj0 : (0 : Int) ≤ j := by omega
        have hj1 : (j : Int) < n1 := by omega
        clear hc
        have HF := Lib.hid hf
        clear hf
        go_upto_region 8 with fail
        have hBx := Blk.new wr 45 [.int .i64 f.client, .int .i64 f.seq, .int .i64 f.code, .int .i64 f.n]
        have xw : Ext wr (wr.alloc (.cells #[.int .i64 f.client, .int .i64 f.seq, .int .i64 f.code, .int .i64 f.n] 45)) := (Ext.refl wr).alloc _
        have d4' := HC.out _ (hx.trans xw) 4
        clear c0 c1 c2 c3 d4
        generalize (wr.alloc (.cells #[.int .i64 f.client, .int .i64 f.seq, .int .i64 f.code, .int .i64 f.n] 45)) = W1 at *
        have g0 := hBx.cell 0
        have g1 := hBx.cell 1
        have g2 := hBx.cell 2
        have g3 := hBx.cell 3
        simp only [List.getElem?_cons_zero, List.getElem?_cons_succ] at d4' g0 g1 g2 g3
        have N1 := Lib.hid (fun b hb w => ref07_in f.client 1 8 b hb w)
        have N2 := Lib.hid (fun b hb w => ref07_in f.seq 0 1048576 b hb w)
        have N3 := Lib.hid (fun b hb w => ref07_in f.code 0 99 b hb w)
        have N4 := Lib.hid (fun b hb w => ref07_in f.n 0 1048576 b hb w)
        go_cut [5] (fun s5 wx => s5 = .bool (b && sesOne f) ∧ W1 = wx)
        case first =>
          clear HF HN HC hlt
          have HSO : Hid (sesOne f = (inI f.client 1 8 && (inI f.seq 0 1048576 && (inI f.code 0 99 && inI f.n 0 1048576)))) := Lib.hid rfl
          generalize inI f.client 1 8 = b1 at *
          generalize inI f.seq 0 1048576 = b2 at *
          generalize inI f.code 0 99 = b3 at *
          generalize inI f.n 0 1048576 = b4 at *
          rcases b with _ | _
          · clear N1 N2 N3 N4
            go_wp2_with fail
            go_meet
            exact ⟨rfl, rfl⟩
          rcases b1 with _ | _
          · have M1 := Lib.hid (N1.out _ rfl)
            clear N1 N2 N3 N4
            go_wp2_with (first | (go_at_call 56; ((with_reducible refine (M1.out _).mono ?_); rintro e w1 ⟨rfl, rfl⟩)))
            go_meet
            exact ⟨by rw [HSO.out] <;> rfl, rfl⟩
          have M1 := Lib.hid (N1.out _ rfl)
          rcases b2 with _ | _
          · have M2 := Lib.hid (N2.out _ rfl)
            clear N1 N2 N3 N4
            go_wp2_with (first | (go_at_call 56; ((with_reducible refine (M1.out _).mono ?_); rintro e w1 ⟨rfl, rfl⟩)) | (go_at_call 56; ((with_reducible refine (M2.out _).mono ?_); rintro e w1 ⟨rfl, rfl⟩)))
            go_meet
            exact ⟨by rw [HSO.out] <;> rfl, rfl⟩
          have M2 := Lib.hid (N2.out _ rfl)
          rcases b3 with _ | _
          · have M3 := Lib.hid (N3.out _ rfl)
            clear N1 N2 N3 N4
            go_wp2_with (first | (go_at_call 56; ((with_reducible refine (M1.out _).mono ?_); rintro e w1 ⟨rfl, rfl⟩)) | (go_at_call 56; ((with_reducible refine (M2.out _).mono ?_); rintro e w1 ⟨rfl, rfl⟩)) | (go_at_call 56; ((with_reducible refine (M3.out _).mono ?_); rintro e w1 ⟨rfl, rfl⟩)))
            go_meet
            exact ⟨by rw [HSO.out] <;> rfl, rfl⟩
          have M3 := Lib.hid (N3.out _ rfl)
          have M4 := Lib.hid (N4.out _ rfl)
          clear N1 N2 N3 N4
          go_wp2_with (first | (go_at_call 56; ((with_reducible refine (M1.out _).mono ?_); rintro e w1 ⟨rfl, rfl⟩)) | (go_at_call 56; ((with_reducible refine (M2.out _).mono ?_); rintro e w1 ⟨rfl, rfl⟩)) | (go_at_call 56; ((with_reducible refine (M3.out _).mono ?_); rintro e w1 ⟨rfl, rfl⟩)) | (go_at_call 56; ((with_reducible refine (M4.out _).mono ?_); rintro e w1 ⟨rfl, rfl⟩)))
          go_meet
          exact ⟨by rw [HSO.out] <;> rfl, rfl⟩
        case rest =>
          obtain ⟨rfl, rfl⟩ := hcut
          clear N1 N2 N3 N4 g1 g2 g3 hcode
          have HF2 : Hid ((nb && chkR CV.client sesOne none ses) = ((b && sesOne f) && (rsB CV.client (if j = 0 then none else ses[j - 1]?) f && chkR CV.client sesOne (some f) (ses.drop (j + 1))))) := Lib.hid (by rw [HF.out, Bool.and_assoc, Bool.and_assoc])
          clear HF
          generalize (b && sesOne f) = b1 at *
          rcases b1 with _ | _
          · go_wp2_with fail
            go_quiet (fail)
            go_wp2_with fail
            go_roundw
            case rel => exact ⟨j + 1, false, val_int (by omega), rfl, by omega, by rw [HF2.out, Bool.false_and, Bool.false_and], (hx.trans xw).drewN _⟩
            case measure => simp [intOf]; omega
          rcases Nat.eq_zero_or_pos j with rfl | hjp
          · go_wp2_with fail
            go_quiet (fail)
            go_wp2_with fail
            go_roundw
            case rel => exact ⟨0 + 1, true, val_int (by omega), rfl, by omega, by rw [HF2.out, HN.out] <;> rfl, (hx.trans xw).drewN _⟩
            case measure => simp [intOf]; omega
          obtain ⟨i, rfl⟩ : ∃ i, j = i + 1 := ⟨j - 1, by omega⟩
          have hil : i < ses.length := by omega
          obtain ⟨b', off', hA', hlt', hc'⟩ := (ht1.ext (xa.trans (hx.trans xw))).at_ (show i < n1 by omega)
          injection hA' with hA'
          injection hA' with hb' ho'
          subst hb' ho'
          have hpv := prev_at ses i hil
          generalize ses[i] = y at *
          have p0 : W1.cell? ⟨bb, off + i * 4, none⟩ = some (.int .i64 y.client) := hc' 0 (by omega)
          have HF3 : Hid ((nb && chkR CV.client sesOne none ses) = (decide (y.client < f.client) && chkR CV.client sesOne (some f) (ses.drop (i + 1 + 1)))) := Lib.hid (by rw [HF2.out, hpv, Bool.true_and]; rfl)
          have hw1 : IntKind.i64.wrap (i : Int) = i := IntWalk.i64_in _ (by omega)
          have hw2 : IntKind.i64.wrap ((i : Int) + 1) = (i : Int) + 1 := IntWalk.i64_in _ (by omega)
          have hi0 : (0 : Int) ≤ i := by omega
          have hi1 : (i : Int) < n1 := by omega
          have hne : ((i : Int) + 1 == 0) = false := beq_f (by omega)
          clear hpv hc' HF2
          generalize hdc : decide (y.client < f.client) = dc at *
          go_wp2_with fail
          go_quiet (fail)
          go_wp2_with fail
          go_roundw
          case rel => exact ⟨i + 1 + 1, dc, val_int (by omega), by first | rfl | rw [hdc], by omega, by rw [HF3.out, HN.out], (hx.trans xw).drewN _⟩
          case measure => simp [intOf]; omega
      · obtain rfl : n1 = j := by omega
        rw [List.drop_of_length_le (by omega), chkR_nil, Bool.and_true] at hf
        have HFA := Lib.hid hf
        clear hf Hu
        obtain ⟨wa, rfl⟩ : ∃ wa : World, wa = wr := ⟨_, rfl⟩
        have hxa := hx
        clear hx hjn hj
        have d5 := HC.out _ hxa 5
        simp only [List.getElem?_cons_zero, List.getElem?_cons_succ] at d5
        go_wp2_with fail
        clear d4 d5
        go_loopw [5, 8] (fun q5 q8 wr => ∃ (j : Nat) (b' : Bool), q8 = .int .i64 j ∧ q5 = .bool b' ∧ j ≤ n2 ∧ (b && chkR OV.set opsOne none ops) = (b' && chkR OV.set opsOne (if j = 0 then none else ops[j - 1]?) (ops.drop j)) ∧ Ext W0 wr) (fun _ q8 _ => n2 - (intOf q8).toNat)
        case atStart => exact ⟨0, b, rfl, rfl, by omega, rfl, hxa⟩
        case round =>
          clear hxa
          obtain ⟨j, b', rfl, rfl, hj, hf, hx⟩ := hrel
          have d5 := HC.out _ hx 5
          simp only [List.getElem?_cons_zero, List.getElem?_cons_succ] at d5
          by_cases hjn : j < n2
          · have hjl : j < ops.length := by omega
            obtain ⟨bb, off, rfl, hlt, hc⟩ := (ht2.ext (xa.trans hx)).at_ hjn
            have HN : Hid ((if j + 1 = 0 then none else ops[j + 1 - 1]?) = some ops[j]) := Lib.hid (prev_at ops j hjl)
            rw [List.drop_eq_getElem_cons hjl, chkR_cons] at hf
            generalize ops[j] = f at *
            have c0 : wr.cell? ⟨bb, off + j * 2, none⟩ = some (.int .i64 f.set) := hc 0 (by omega)
            have c1 : wr.cell? ⟨bb, off + j * 2 + 1, none⟩ = some (.int .i64 f.client) := hc 1 (by omega)
            have hj0 : (0 : Int) ≤ j := by omega
            have hj1 : (j : Int) < n2 := by omega
            clear hc
            have HF := Lib.hid hf
            clear hf
            go_upto_region 14 with fail
            have hBx := Blk.new wr 47 [.int .i64 f.set, .int .i64 f.client]
            have xw : Ext wr (wr.alloc (.cells #[.int .i64 f.set, .int .i64 f.client] 47)) := (Ext.refl wr).alloc _
            have d5' := HC.out _ (hx.trans xw) 5
            clear c0 c1 d5
            generalize (wr.alloc (.cells #[.int .i64 f.set, .int .i64 f.client] 47)) = W1 at *
            have g0 := hBx.cell 0
            have g1 := hBx.cell 1
            simp only [List.getElem?_cons_zero, List.getElem?_cons_succ] at d5' g0 g1
            have N1 := Lib.hid (fun b hb w => ref07_in' f.set 1 8 b hb w)
            have N2 := Lib.hid (fun b hb w => ref07_in' f.client 1 8 b hb w)
            have HSO : Hid (opsOne f = (inI f.set 1 8 && inI f.client 1 8)) := Lib.hid rfl
            generalize inI f.set 1 8 = b1 at *
            generalize inI f.client 1 8 = b2 at *
            rcases b' with _ | _
            · clear N1 N2
              go_quiet (fail)
              go_wp2_with fail
              go_roundw
              case rel => exact ⟨j + 1, false, val_int (by omega), rfl, by omega, by rw [HF.out, Bool.false_and, Bool.false_and], (hx.trans xw).drewN _⟩
              case measure => simp [intOf]; omega
            rcases b1 with _ | _
            · have M1 := Lib.hid (fun w => N1.out _ rfl w)
              clear N1 N2
              go_quiet ((first | (go_at_call 56; exact Calls.quiet_of_same (M1.out _))))
              go_wp2_with fail
              go_roundw
              case rel => exact ⟨j + 1, false, val_int (by omega), rfl, by omega, by rw [HF.out, HSO.out] <;> rfl, (hx.trans xw).drewN _⟩
              case measure => simp [intOf]; omega
            have M1 := Lib.hid (fun w => N1.out _ rfl w)
            rcases b2 with _ | _
            · have M2 := Lib.hid (fun w => N2.out _ rfl w)
              clear N1 N2
              go_quiet ((first | (go_at_call_of 56 (Value.int .i64 f.set); exact Calls.quiet_of_same (M1.out _)) | (go_at_call_of 56 (Value.int .i64 f.client); exact Calls.quiet_of_same (M2.out _))))
              go_wp2_with fail
              go_roundw
              case rel => exact ⟨j + 1, false, val_int (by omega), rfl, by omega, by rw [HF.out, HSO.out] <;> rfl, (hx.trans xw).drewN _⟩
              case measure => simp [intOf]; omega
            have M2 := Lib.hid (fun w => N2.out _ rfl w)
            clear N1 N2
            rcases Nat.eq_zero_or_pos j with rfl | hjp
            · go_quiet ((first | (go_at_call_of 56 (Value.int .i64 f.set); exact Calls.quiet_of_same (M1.out _)) | (go_at_call_of 56 (Value.int .i64 f.client); exact Calls.quiet_of_same (M2.out _))))
              go_wp2_with fail
              go_roundw
              case rel => exact ⟨0 + 1, true, val_int (by omega), rfl, by omega, by rw [HF.out, HN.out, HSO.out] <;> rfl, (hx.trans xw).drewN _⟩
              case measure => simp [intOf]; omega
            obtain ⟨i, rfl⟩ : ∃ i, j = i + 1 := ⟨j - 1, by omega⟩
            have hil : i < ops.length := by omega
            obtain ⟨bq, oq, hA', hlt', hc'⟩ := (ht2.ext (xa.trans (hx.trans xw))).at_ (show i < n2 by omega)
            injection hA' with hA'
            injection hA' with hb' ho'
            subst hb' ho'
            have hpv := prev_at ops i hil
            generalize ops[i] = y at *
            have p0 : W1.cell? ⟨bb, off + i * 2, none⟩ = some (.int .i64 y.set) := hc' 0 (by omega)
            have HF3 : Hid ((b && chkR OV.set opsOne none ops) = (decide (y.set < f.set) && chkR OV.set opsOne (some f) (ops.drop (i + 1 + 1)))) := Lib.hid (by rw [HF.out, hpv, HSO.out]; rfl)
            have hw1 : IntKind.i64.wrap (i : Int) = i := IntWalk.i64_in _ (by omega)
            have hw2 : IntKind.i64.wrap ((i : Int) + 1) = (i : Int) + 1 := IntWalk.i64_in _ (by omega)
            have hi0 : (0 : Int) ≤ i := by omega
            have hi1 : (i : Int) < n2 := by omega
            have hne : ((i : Int) + 1 == 0) = false := beq_f (by omega)
            clear hpv hc' HF
            generalize hdc : decide (y.set < f.set) = dc at *
            go_quiet ((first | (go_at_call_of 56 (Value.int .i64 f.set); exact Calls.quiet_of_same (M1.out _)) | (go_at_call_of 56 (Value.int .i64 f.client); exact Calls.quiet_of_same (M2.out _))))
            go_wp2_with fail
            go_roundw
            case rel => exact ⟨i + 1 + 1, dc, val_int (by omega), by first | rfl | rw [hdc], by omega, by rw [HF3.out, HN.out], (hx.trans xw).drewN _⟩
            case measure => simp [intOf]; omega
          · obtain rfl : n2 = j := by omega
            rw [List.drop_of_length_le (by omega), chkR_nil, Bool.and_true] at hf
            have HFB := Lib.hid hf
            clear hf
            obtain ⟨wb, rfl⟩ : ∃ wb : World, wb = wr := ⟨_, rfl⟩
            have hxa := hx
            clear hx hjn hj
            have d6 := HC.out _ hxa 6
            simp only [List.getElem?_cons_zero, List.getElem?_cons_succ] at d6
            go_wp2_with fail
            clear d5 d6
            go_loopw [5, 10] (fun q5 q10 wr => ∃ (j : Nat) (b2 : Bool), q10 = .int .i64 j ∧ q5 = .bool b2 ∧ j ≤ n3 ∧ (b' && chkR NV.id (snR ver nx) none sns) = (b2 && chkR NV.id (snR ver nx) (if j = 0 then none else sns[j - 1]?) (sns.drop j)) ∧ Ext W0 wr) (fun _ q10 _ => n3 - (intOf q10).toNat)
            case atStart => exact ⟨0, b', rfl, rfl, by omega, rfl, hxa⟩
            case round =>
              clear hxa
              obtain ⟨j, b2, rfl, rfl, hj, hf, hx⟩ := hrel
              have d6 := HC.out _ hx 6
              have d1 := HC.out _ hx 1
              simp only [List.getElem?_cons_zero, List.getElem?_cons_succ] at d6 d1
              by_cases hjn : j < n3
              · have hjl : j < sns.length := by omega
                obtain ⟨bb, off, rfl, hlt, hc⟩ := (ht3.ext (xa.trans hx)).at_ hjn
                have hok : NV.Ok sns[j] wr := (ht3.ext (xa.trans hx)).ok sns[j] (List.getElem_mem _)
                have hlf := Hl.out sns[j] (List.getElem_mem _)
                have HN : Hid ((if j + 1 = 0 then none else sns[j + 1 - 1]?) = some sns[j]) := Lib.hid (prev_at sns j hjl)
                rw [List.drop_eq_getElem_cons hjl, chkR_cons] at hf
                generalize sns[j] = f at *
                have c0 : wr.cell? ⟨bb, off + j * 5, none⟩ = some (.int .i64 f.id) := hc 0 (by omega)
                have c1 : wr.cell? ⟨bb, off + j * 5 + 1, none⟩ = some (.int .i64 f.set) := hc 1 (by omega)
                have c2 : wr.cell? ⟨bb, off + j * 5 + 2, none⟩ = some (.slice f.A f.len f.cap) := hc 2 (by omega)
                have c3 : wr.cell? ⟨bb, off + j * 5 + 3, none⟩ = some (.bool f.held) := hc 3 (by omega)
                have c4 : wr.cell? ⟨bb, off + j * 5 + 4, none⟩ = some (.string f.tag) := hc 4 (by omega)
                have HS := Lib.hid (fun (w' : World) (h : Ext wr w') => ref07_snap f next nx ver _ rfl w' (hok.ext h) hlf Hnx.out)
                have hj0 : (0 : Int) ≤ j := by omega
                have hj1 : (j : Int) < n3 := by omega
                clear hc hok
                have HF := Lib.hid hf
                clear hf
                generalize snR ver nx f = sb at *
                go_wp2_with fail
                go_region_held3 (fun w' => w'.cell? ⟨w.heap.size, 6, none⟩ = some (.slice (some ⟨bb, off, none⟩) n3 cc3) ∧ w'.cell? ⟨w.heap.size, 1, none⟩ = some (.int .i64 next) ∧ w'.cell? ⟨bb, off + j * 5, none⟩ = some (.int .i64 f.id) ∧ w'.cell? ⟨bb, off + j * 5 + 1, none⟩ = some (.int .i64 f.set) ∧ w'.cell? ⟨bb, off + j * 5 + 2, none⟩ = some (.slice f.A f.len f.cap) ∧ w'.cell? ⟨bb, off + j * 5 + 3, none⟩ = some (.bool f.held) ∧ w'.cell? ⟨bb, off + j * 5 + 4, none⟩ = some (.string f.tag))
                  (first | go_keep | (exact ⟨y2.cell d6, y2.cell d1, y2.cell c0, y2.cell c1, y2.cell c2, y2.cell c3, y2.cell c4⟩))
                  (first | (go_at_call 57; refine (HS.out _ (Ext.refl wr).drew).mono ?_; rintro e w2 ⟨rfl, y2⟩))
                have x2 : Ext wr w2 := (Ext.refl wr).drew.trans y2
                have d6' := x2.cell d6
                have k0 := x2.cell c0
                clear d6 d1 c0 c1 c2 c3 c4 HS y2
                rcases b2 with _ | _
                · go_wp2_with fail
                  go_quiet (fail)
                  go_wp2_with fail
                  go_roundw
                  case rel => exact ⟨j + 1, false, val_int (by omega), rfl, by omega, by rw [HF.out, Bool.false_and, Bool.false_and], (hx.trans x2).drewN _⟩
                  case measure => simp [intOf]; omega
                rcases sb with _ | _
                · go_wp2_with fail
                  go_quiet (fail)
                  go_wp2_with fail
                  go_roundw
                  case rel => exact ⟨j + 1, false, val_int (by omega), rfl, by omega, by rw [HF.out] <;> rfl, (hx.trans x2).drewN _⟩
                  case measure => simp [intOf]; omega
                rcases Nat.eq_zero_or_pos j with rfl | hjp
                · go_wp2_with fail
                  go_quiet (fail)
                  go_wp2_with fail
                  go_roundw
                  case rel => exact ⟨0 + 1, true, val_int (by omega), rfl, by omega, by rw [HF.out, HN.out] <;> rfl, (hx.trans x2).drewN _⟩
                  case measure => simp [intOf]; omega
                obtain ⟨i, rfl⟩ : ∃ i, j = i + 1 := ⟨j - 1, by omega⟩
                have hil : i < sns.length := by omega
                obtain ⟨bq, oq, hA', hlt', hc'⟩ := (ht3.ext (xa.trans (hx.trans x2))).at_ (show i < n3 by omega)
                injection hA' with hA'
                injection hA' with hb' ho'
                subst hb' ho'
                have hpv := prev_at sns i hil
                generalize sns[i] = y at *
                have p0 : w2.cell? ⟨bb, off + i * 5, none⟩ = some (.int .i64 y.id) := hc' 0 (by omega)
                have HF3 : Hid ((b' && chkR NV.id (snR ver nx) none sns) = (decide (y.id < f.id) && chkR NV.id (snR ver nx) (some f) (sns.drop (i + 1 + 1)))) := Lib.hid (by rw [HF.out, hpv]; rfl)
                have hw1 : IntKind.i64.wrap (i : Int) = i := IntWalk.i64_in _ (by omega)
                have hw2 : IntKind.i64.wrap ((i : Int) + 1) = (i : Int) + 1 := IntWalk.i64_in _ (by omega)
                have hi0 : (0 : Int) ≤ i := by omega
                have hi1 : (i : Int) < n3 := by omega
                have hii : (i : Int) + 1 < n3 := by omega
                have hne : ((i : Int) + 1 == 0) = false := beq_f (by omega)
                clear hpv hc' HF
                generalize hdc : decide (y.id < f.id) = dc at *
                go_wp2_with fail
                go_quiet (fail)
                go_wp2_with fail
                go_roundw
                case rel => exact ⟨i + 1 + 1, dc, val_int (by omega), by first | rfl | rw [hdc], by omega, by rw [HF3.out, HN.out], (hx.trans x2).drewN _⟩
                case measure => simp [intOf]; omega
              · obtain rfl : n3 = j := by omega
                rw [List.drop_of_length_le (by omega), chkR_nil, Bool.and_true] at hf
                have HFC := Lib.hid hf
                clear hf
                rcases b2 with _ | _
                · go_wp2
                  go_ret
                  exact ⟨by rw [EE.out, HFA.out, HFB.out, HFC.out] <;> rfl, xa.trans hx⟩
                · go_wp2
                  go_ret
                  exact ⟨by rw [EE.out, HFA.out, HFB.out, HFC.out] <;> rfl, xa.trans hx⟩
end Go.Proofs.Ytiildgoaiookhaa
