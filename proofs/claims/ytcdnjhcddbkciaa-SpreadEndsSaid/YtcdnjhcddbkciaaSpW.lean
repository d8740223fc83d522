/- The walk of the law SpreadEnds. (Printed by wip/tools/spends.py.) -/
import Derived.Test.YtcdnjhcddbkciaaSpV
import Derived.Test.YtcdnjhcddbkciaaSpU
import Derived.Test.YtcdnjhcddbkciaaSpD
import Derived.Test.YtcdnjhcddbkciaaElO
import Derived.Test.YtcdnjhcddbkciaaSpE
import Derived.Deep.DeepCutAuto
namespace Go.Proofs.Ytcdnjhcddbkciaa
open Go.RowKit

theorem wp_run_value {P : Program} {o : Oper} {a : Act} {w : World} {next : Act → World → Prop} {Q : Exit → Act → World → Prop} {v : Value} (h : (execOp a.eval o).run P w = .ok (.value v) w) (hn : next (a.put o.dst v) w) : o.wp P a w next Q := by
  unfold Oper.wp
  rw [h]; exact hn
theorem build_done1 (ρ : Operand → Value) (w : World) (k : Int) (b : Bool) (h1 : ρ (.tmp 151) = .int .i64 k) (h2 : ρ (.tmp 152) = .bool b) (hc : ∀ v, ρ (.const v) = v) (o : Oper)
    (ho : o.op = Op.build 47 #[(0, .const (.int .i64 4)), (1, .const (.int .i64 2)), (2, .const (.int .i64 1)), (3, .const (.int .i64 99)), (4, .tmp 151), (8, .tmp 152), (7, .const (.int .i64 3))]) :
    (execOp ρ o).run Try.prog w = .ok (.value (.agg #[.int .i64 4, .int .i64 2, .int .i64 1, .int .i64 99, .int .i64 k, .int .i64 0, .int .i64 0, .int .i64 3, .bool b, .slice none 0 0])) w := by
  unfold execOp
  rw [ho]
  dsimp only
  simp [go_sem, h1, h2, hc]
theorem i0 : I64 (0 : Int) := ⟨by decide, by decide⟩
theorem i1 : I64 (1 : Int) := ⟨by decide, by decide⟩
theorem i2 : I64 (2 : Int) := ⟨by decide, by decide⟩
theorem i3 : I64 (3 : Int) := ⟨by decide, by decide⟩
theorem i99 : I64 (99 : Int) := ⟨by decide, by decide⟩
theorem makeY_ends (A1 : Option Addr) (m c1 : Nat) (t : List EV) (a : Nat) (ha : a ≤ t.length) (hm : t.length ≤ 12) (hg : ∀ f ∈ t, 1 ≤ f.term ∧ f.term ≤ 25 ∧ f.len ≤ 100) :
    mayB (makeY ⟨0, 99, 0, A1, m, c1, t⟩ 1 2 a 0 3 none 0) = true := by
  have hte : 0 ≤ termB t a ∧ termB t a ≤ 1048576 := by
    rcases Nat.eq_zero_or_pos a with rfl | h0
    · rw [show ((0 : Nat) : Int) = 0 from rfl, termB_zero]; omega
    · obtain ⟨i, rfl⟩ : ∃ i, a = i + 1 := ⟨a - 1, by omega⟩
      have := hg t[i] (List.getElem_mem _)
      rw [show ((i + 1 : Nat) : Int) = (i : Int) + 1 by omega, termB_at t i (by omega)]
      omega
  have hl : (behB t a 4).length ≤ 4 := by rw [behB_4S t a ha, List.length_take]; omega
  have he : entsB (behB t a 4) = true := by
    have hmem := behB_mem2 t a 4
    generalize behB t a 4 = bl at *
    unfold entsB
    rw [List.all_eq_true]
    intro f hf
    obtain ⟨q1, q2, q3⟩ := hg f (hmem f hf)
    simp [inB]
    omega
  unfold mayB makeY
  dsimp only
  rw [he]
  generalize (behB t a 4).length = n at *
  generalize termB t a = te at *
  simp [inB]
  omega

set_option maxRecDepth 100000 in
set_option maxHeartbeats 25600000 in
theorem law_SpreadEnds (A : Option Addr) (n c : Nat) (l : List EV) (B : Option Addr) (m d : Nat) (lb : List EV) (at_ : Nat) (w : World) (hes : Es w A n l) (hnc : n ≤ c) (hcm : c ≤ maxLen) (heb : Es w B m lb) (hmd : m ≤ d) (hdm : d ≤ maxLen) (hat : at_ < 256) :
    Calls Try.prog 18 #[.slice A n c, .slice B m d, .int .u8 at_] w fun e w' => e = .returned (.bool true) ∧ Ext w w' := by
  have hlen := hes.len
  have hlenb := heb.len
  have hmx : n ≤ 9223372036854775807 := by unfold maxLen at hcm; omega
  have hmx2 : m ≤ 9223372036854775807 := by unfold maxLen at hdm; omega
  have HES := Lib.hid hes
  have HEB := Lib.hid heb
  clear hes heb
  go_enter Try.func18, Try.ntmps18
  go_wp2_with fail
  refine (law19_shown w).mono ?_
  rintro e w1 ⟨rfl, x1⟩
  go_upto_region 3 with fail
  have hB0 := Blk.new w1 45 [.int .i64 0, .int .i64 50, .int .i64 0, .slice none 0 0]
  have x2 : Ext w (w1.alloc (.cells #[.int .i64 0, .int .i64 50, .int .i64 0, .slice none 0 0] 45)) := x1.trans ((Ext.refl w1).alloc _)
  have hlg : w.heap.size ≤ w1.heap.size := x1.size
  generalize w1.heap.size = gl at *
  generalize w1.alloc (.cells #[.int .i64 0, .int .i64 50, .int .i64 0, .slice none 0 0] 45) = W2 at *
  have HL0 : Hid (LeadI w W2 gl none 0 0 [] 1) := Lib.hid ⟨hB0, ⟨rfl, .inl ⟨rfl, rfl⟩⟩, by simp, by omega, by omega, by omega, x2, hlg⟩
  clear hB0 x2 x1
  go_cut [9] (fun v wx => v = .int .i64 1 ∧ W2 = wx)
  case first =>
    go_wp2_with fail
    go_meet
    exact ⟨rfl, rfl⟩
  obtain ⟨rfl, rfl⟩ := hcut
  apply_assumption
  refine wp_seq_k ?_
  intro KR hKR
  go_cut [9, 10] (fun v i wx => ∃ (j tn : Nat) (A1 : Option Addr) (c1 : Nat) (L : List EV), v = .int .i64 tn ∧ LeadI w wx gl A1 j c1 L tn)
  case first =>
    as_aux_lemma =>
      clear hKR
      go_wp2_with fail
      go_loopw [9, 10] (fun v i wr => ∃ (j tn : Nat) (A1 : Option Addr) (c1 : Nat) (L : List EV), v = .int .i64 tn ∧ i = .int .i64 j ∧ j ≤ n ∧ j ≤ 12 ∧ LeadI w wr gl A1 j c1 L tn) (fun _ i _ => 12 - (intOf i).toNat)
      case atStart => exact ⟨0, 1, none, 0, [], rfl, rfl, by omega, by omega, HL0.out⟩
      case round =>
        clear HL0
        obtain ⟨j, tn, A1, c1, L, rfl, rfl, hjn, hj12, hI⟩ := hrel
        have HI := Lib.hid hI
        have hown := hI.own
        have hB := hI.blk
        have hj0 : (0 : Int) ≤ j := by omega
        have ht0 := hI.t0
        by_cases h1 : j < n
        · have g1 : (j : Int) < n := by omega
          by_cases h2 : j < 12
          · have g2 : (j : Int) < 12 := by omega
            obtain ⟨b, off, hA, e0, e1⟩ := (HES.out.ext hI.ex).at_ h1
            have hyo := HES.out.ok l[j] (List.getElem_mem _)
            generalize l[j] = y at *
            obtain ⟨yt, yA, yl, yc, yb⟩ := y
            dsimp only at e0 e1
            have hyc := hyo.le
            have hyb := hyo.bs
            have hym := hyo.cap
            dsimp only at hyc hyb hym
            obtain ⟨z, hz, hand⟩ := and1s yt
            have hw1 : IntKind.i64.wrap (2 * (z : Int)) = 2 * (z : Int) := IntWalk.i64_in _ (by omega)
            have hw2 : IntKind.i64.wrap ((tn : Int) + 2 * (z : Int)) = ((tn + 2 * z : Nat) : Int) := by rw [IntWalk.i64_in _ (by omega)]; omega
            have b3 := hB.cell 3
            simp only [List.getElem?_cons_zero, List.getElem?_cons_succ] at b3
            have hlt := hB.lt
            have HB := Lib.hid hB
            have HBS := Lib.hid hyb
            subst hA
            clear hyo hI hB hyb
            by_cases hc : 100 < yl
            · as_aux_lemma =>
                have HS : Hid (∀ (w6 W' : World) (A6 : Option Addr) (c6 : Nat), Ext wr W' → w6.ownsRow (gl + 1) 36 2 (.slice A6 (j + 1) c6) (j + 1) (logOf L ++ [.int .i64 ((tn + 2 * z : Nat) : Int), .slice yA 100 yc]) → W'.grownBy w6 (Value.slice A1 j c1).ownBlock → Blk w6 gl 45 [.int .i64 0, .int .i64 50, .int .i64 0, .slice A1 j c1] ∧ LeadI w (w6.setCell ⟨gl, 3, none⟩ (.slice A6 (j + 1) c6)) gl A6 (j + 1) c6 (L ++ [⟨((tn + 2 * z : Nat) : Int), yA, 100, yc, yb.take 100⟩]) (tn + 2 * z)) :=
                  Lib.hid fun w6 W' A6 c6 he ho hg => HI.out.step he h2 (y := ⟨((tn + 2 * z : Nat) : Int), yA, 100, yc, yb.take 100⟩) ⟨HBS.out.upto (show 100 ≤ yl by omega), by dsimp only; omega, hym, ⟨by dsimp only; omega, by dsimp only; omega⟩⟩ rfl (by dsimp only; omega) (by omega) (by omega) ho hg
                go_wp2_with (at_builtin; refine wpList_app entsT (by omega) _ rfl rfl rfl ((hown.alloc _).alloc _) rfl (rd_at2 _ (.int .i64 ((tn + 2 * z : Nat) : Int)) (.slice yA 100 yc) _ _ (by simp)) (ecells_one _ _ _ _) (by unfold maxLen; omega) (by omega) (by simp; omega) ?_; intro v6 w6 hown6 hg6 hat6; obtain ⟨A6, c6, rfl, _⟩ := own_form hown6; obtain ⟨k1, k2⟩ := HS.out w6 _ A6 c6 (((Ext.refl wr).alloc _).alloc _) hown6 hg6; have q3 := k1.cell 3; have f3 := k1.frozen 3; simp only [List.getElem?_cons_zero, List.getElem?_cons_succ] at q3; have K2 := Lib.hid k2; clear k1 k2 hown6 hg6 hat6)
                go_roundw
                case rel => exact ⟨j + 1, tn + 2 * z, A6, c6, _, rfl, val_int (by omega), by omega, by omega, K2.out⟩
                case measure => simp [intOf]; omega
            · as_aux_lemma =>
                have HS : Hid (∀ (w6 W' : World) (A6 : Option Addr) (c6 : Nat), Ext wr W' → w6.ownsRow (gl + 1) 36 2 (.slice A6 (j + 1) c6) (j + 1) (logOf L ++ [.int .i64 ((tn + 2 * z : Nat) : Int), .slice yA yl yc]) → W'.grownBy w6 (Value.slice A1 j c1).ownBlock → Blk w6 gl 45 [.int .i64 0, .int .i64 50, .int .i64 0, .slice A1 j c1] ∧ LeadI w (w6.setCell ⟨gl, 3, none⟩ (.slice A6 (j + 1) c6)) gl A6 (j + 1) c6 (L ++ [⟨((tn + 2 * z : Nat) : Int), yA, yl, yc, yb⟩]) (tn + 2 * z)) :=
                  Lib.hid fun w6 W' A6 c6 he ho hg => HI.out.step he h2 (y := ⟨((tn + 2 * z : Nat) : Int), yA, yl, yc, yb⟩) ⟨HBS.out, hyc, hym, ⟨by dsimp only; omega, by dsimp only; omega⟩⟩ rfl (by dsimp only; omega) (by omega) (by omega) ho hg
                go_wp2_with (at_builtin; refine wpList_app entsT (by omega) _ rfl rfl rfl ((hown.alloc _).alloc _) rfl (rd_at2 _ (.int .i64 ((tn + 2 * z : Nat) : Int)) (.slice yA yl yc) _ _ (by simp)) (ecells_one _ _ _ _) (by unfold maxLen; omega) (by omega) (by simp; omega) ?_; intro v6 w6 hown6 hg6 hat6; obtain ⟨A6, c6, rfl, _⟩ := own_form hown6; obtain ⟨k1, k2⟩ := HS.out w6 _ A6 c6 (((Ext.refl wr).alloc _).alloc _) hown6 hg6; have q3 := k1.cell 3; have f3 := k1.frozen 3; simp only [List.getElem?_cons_zero, List.getElem?_cons_succ] at q3; have K2 := Lib.hid k2; clear k1 k2 hown6 hg6 hat6)
                go_roundw
                case rel => exact ⟨j + 1, tn + 2 * z, A6, c6, _, rfl, val_int (by omega), by omega, by omega, K2.out⟩
                case measure => simp [intOf]; omega
          · have g2 : ¬ ((j : Int) < 12) := by omega
            clear hown hB hI
            go_wp2_with fail
            go_meet
            exact ⟨j, tn, A1, c1, L, rfl, HI.out⟩
        · have g1 : ¬ ((j : Int) < n) := by omega
          clear hown hB hI
          go_wp2_with fail
          go_meet
          exact ⟨j, tn, A1, c1, L, rfl, HI.out⟩
  case rest =>
    clear HL0
    obtain ⟨n1, tn, A1, c1, L, rfl, hI⟩ := hcut
    obtain ⟨W3, rfl⟩ : ∃ W3, W3 = wc := ⟨_, rfl⟩
    have HI := Lib.hid hI
    clear hI
    apply_assumption
    have hI := HI.out
    have hlenL := hI.len
    have hn12 := hI.jm
    have hmod : Int.tmod (at_ : Int) ((n1 : Int) + 1) = ((at_ % (n1 + 1) : Nat) : Int) := by rw [Int.tmod_eq_emod_of_nonneg (by omega), Int.natCast_emod]; rfl
    have hwp : IntKind.i64.wrap (at_ : Int) = (at_ : Int) := IntWalk.i64_in _ (by omega)
    have hwm : IntKind.i64.wrap ((n1 : Int) + 1) = (n1 : Int) + 1 := IntWalk.i64_in _ (by omega)
    have hk : at_ % (n1 + 1) ≤ n1 := by have := Nat.mod_lt at_ (show 0 < n1 + 1 by omega); omega
    generalize at_ % (n1 + 1) = k at *
    have hown := hI.own
    have hB := hI.blk
    have hc1 : n1 ≤ c1 := (own_bd hown).1
    have hk0 : (0 : Int) ≤ k := by omega
    have hk1 : (k : Int) ≤ c1 := by omega
    have hk2 : (k : Int) ≤ n1 := by omega
    have b3 := hB.cell 3
    simp only [List.getElem?_cons_zero, List.getElem?_cons_succ] at b3
    have hcu := own_cut hown hk
    have hrd : Rd W3 A1 k 2 (logOf (L.take k)) := by rw [logOf_take]; exact Rd.of_own hcu
    have hemp := own_empty W3 36 2
    have hrd2 := hrd.alloc (.cells #[] 36)
    have hlt := hB.lt
    have HPM : Hid (PM (L.take k) L) := Lib.hid (PM.prefix_ rfl)
    have hgl : gl < W3.heap.size := hlt
    have HLT : Hid (∀ q, (Value.slice A1 n1 c1).ownBlock = some q → q < W3.heap.size) := Lib.hid fun q hq => (hown.lt q hq).2
    clear hcu hrd hI hB hown
    go_upto_region 13 with fail
    go_cut [13] (fun v wx => ∃ (go bo : Nat) (Ao : Option Addr) (co : Nat) (O : List EV), v = .pointer (some ⟨go, 0, none⟩) ∧ TwoI w wx gl go A1 n1 c1 L tn bo Ao k co O)
    case first =>
      go_wp2_with (at_builtin; refine wpList_app entsT (by omega) _ rfl rfl rfl hemp rfl hrd2 (logOf_cells _) (by unfold maxLen; omega) (by omega) (by simp) ?_; intro v7 w7 hown7 hg7 hat7; obtain ⟨A7, c7, rfl, hc7⟩ := own_form hown7; have x7 : Ext W3 w7 := Below.app ((Ext.refl W3).alloc _) hg7 (by simp) hemp (Nat.le_refl _); clear hg7 hat7)
      go_meet
      simp only [List.nil_append, Nat.zero_add] at hown7 hc7 ⊢
      have hB7 := Blk.new w7 45 [.int .i64 0, .int .i64 3, .int .i64 0, .slice A7 k c7]
      have xa : Ext w7 (w7.alloc (.cells #[.int .i64 0, .int .i64 3, .int .i64 0, .slice A7 k c7] 45)) := (Ext.refl w7).alloc _
      exact ⟨w7.heap.size, W3.heap.size, A7, c7, L.take k, rfl, HI.out.ext (x7.trans xa), hB7, own_ext hown7 xa, HLT.out, hgl, fun y hy => (HI.out.es y (List.mem_of_mem_take hy)).1, HPM.out, by have := x7.size; omega, by have := (x7.trans xa).size; omega⟩
    obtain ⟨go, bo, A7, c7, O7, rfl, hT7⟩ := hcut
    obtain ⟨W4, rfl⟩ : ∃ W4, W4 = wc := ⟨_, rfl⟩
    have HT0 := Lib.hid hT7
    clear hT7 hemp hrd2 b3 hmod hwp hwm HLT HPM hgl
    apply_assumption
    refine wp_seq_k ?_
    intro KR2 hKR2
    go_cut [14] (fun v wx => ∃ (j : Nat) (Ao : Option Addr) (co : Nat) (O : List EV), j ≤ 12 ∧ TwoI w wx gl go A1 n1 c1 L tn bo Ao (k + j) co O)
    case first =>
      as_aux_lemma =>
        clear hKR hKR2
        go_wp2_with fail
        go_loopw [14] (fun i wr => ∃ (j : Nat) (Ao : Option Addr) (co : Nat) (O : List EV), i = .int .i64 j ∧ j ≤ m ∧ j ≤ 12 ∧ TwoI w wr gl go A1 n1 c1 L tn bo Ao (k + j) co O) (fun i _ => 12 - (intOf i).toNat)
        case atStart => exact ⟨0, A7, c7, O7, rfl, by omega, by omega, HT0.out⟩
        case round =>
          clear HT0
          obtain ⟨j, Ao, co, O, rfl, hjm, hj12, hT⟩ := hrel
          have HT := Lib.hid hT
          have hj0 : (0 : Int) ≤ j := by omega
          by_cases h1 : j < m
          · have g1 : (j : Int) < m := by omega
            by_cases h2 : j < 12
            · as_aux_lemma =>
                have g2 : (j : Int) < 12 := by omega
                obtain ⟨b, off, hA, e0w, e1w⟩ := HEB.out.at_ h1
                generalize lb[j].term = yt at *
                obtain ⟨z, hz, hand⟩ := and3s yt
                have hw1 : IntKind.i64.wrap (60 + (z : Int)) = ((60 + z : Nat) : Int) := by rw [IntWalk.i64_in _ (by omega)]; omega
                have hlenO := hT.len
                have hbs := hT.bs
                have hgo : w.heap.size ≤ bo := by have := hT.ld.lg; have := hT.glb; omega
                have hcm : k + j + 1 ≤ maxLen := by unfold maxLen; omega
                have HSX : Hid (∀ (V : World), Ext wr V → (V.cell? ⟨go, 3, none⟩ = some (.slice Ao (k + j) co) ∧ V.cell? ⟨b, off + j * 2, none⟩ = some (.int .i64 yt))) := Lib.hid fun V h => ⟨(HT.out.blk.ext h).cell 3, (HT.out.ld.ex.trans h).cell e0w⟩
                have HE0 := Lib.hid e0w
                have hown' := ((hT.own.alloc (.cells #[.int .i64 ((60 + z : Nat) : Int), .slice none 0 0] 36)).drew)
                have y0 := ((Ext.refl wr).alloc (.cells #[.int .i64 ((60 + z : Nat) : Int), .slice none 0 0] 36)).drew
                have hrdN := (rd_at2 wr (.int .i64 ((60 + z : Nat) : Int)) (.slice none 0 0) 36 wr.heap.size rfl).ext (Ext.refl _).drew
                subst hA
                clear hT e0w e1w
                go_upto_region 17 with fail
                refine WT.start (z := 13) (n := 14) rfl (fun V => V.cell? ⟨go, 3, none⟩ = some (.slice Ao (k + j) co) ∧ V.cell? ⟨b, off + j * 2, none⟩ = some (.int .i64 yt)) (by kernel_rfl) (HSX.out _ (Ext.refl wr).drew) ?_
                simp only [List.replicate]
                refine WT.take (i := 0) (v := ?_) rfl (by kernel_rfl) (by kernel_rfl) (by kernel_rfl) (by rfl) (by kernel_rfl) (fun _ _ _ h => h) (Or.inl ⟨by rfl, ?_⟩) ?_
                rotate_left
                · intro w hSw
                  (try dsimp only at hSw)
                  go_simp
                  try with_reducible rfl
                try simp only [Act.put, List.setIfInBounds_toArray, List.set_cons_zero, List.set_cons_succ]
                refine WT.take (i := 1) (v := ?_) rfl (by kernel_rfl) (by kernel_rfl) (by kernel_rfl) (by rfl) (by kernel_rfl) (fun _ _ _ h => h) (Or.inl ⟨by rfl, ?_⟩) ?_
                rotate_left
                · intro w hSw
                  (try dsimp only at hSw)
                  go_simp
                  try with_reducible rfl
                try simp only [Act.put, List.setIfInBounds_toArray, List.set_cons_zero, List.set_cons_succ]
                refine WT.take (i := 2) (v := ?_) rfl (by kernel_rfl) (by kernel_rfl) (by kernel_rfl) (by rfl) (by kernel_rfl) (fun _ _ _ h => h) (Or.inl ⟨by rfl, ?_⟩) ?_
                rotate_left
                · intro w hSw
                  (try dsimp only at hSw)
                  go_simp
                  try with_reducible rfl
                try simp only [Act.put, List.setIfInBounds_toArray, List.set_cons_zero, List.set_cons_succ]
                refine WT.take (i := 3) (v := ?_) rfl (by kernel_rfl) (by kernel_rfl) (by kernel_rfl) (by rfl) (by kernel_rfl) (fun _ _ _ h => h) (Or.inl ⟨by rfl, ?_⟩) ?_
                rotate_left
                · intro w hSw
                  (try dsimp only at hSw)
                  go_simp
                  try with_reducible rfl
                try simp only [Act.put, List.setIfInBounds_toArray, List.set_cons_zero, List.set_cons_succ]
                refine WT.take (i := 4) (v := ?_) rfl (by kernel_rfl) (by kernel_rfl) (by kernel_rfl) (by rfl) (by kernel_rfl) (fun _ _ _ h => h) (Or.inl ⟨by rfl, ?_⟩) ?_
                rotate_left
                · intro w hSw
                  (try dsimp only at hSw)
                  go_simp
                  try with_reducible rfl
                try simp only [Act.put, List.setIfInBounds_toArray, List.set_cons_zero, List.set_cons_succ]
                refine WT.take (i := 5) (v := ?_) rfl (by kernel_rfl) (by kernel_rfl) (by kernel_rfl) (by rfl) (by kernel_rfl) (fun _ _ _ h => h) (Or.inl ⟨by rfl, ?_⟩) ?_
                rotate_left
                · intro w hSw
                  (try dsimp only at hSw)
                  go_simp
                  try with_reducible rfl
                try simp only [Act.put, List.setIfInBounds_toArray, List.set_cons_zero, List.set_cons_succ]
                refine WT.take (i := 6) (v := ?_) rfl (by kernel_rfl) (by kernel_rfl) (by kernel_rfl) (by rfl) (by kernel_rfl) (fun _ _ _ h => h) (Or.inl ⟨by rfl, ?_⟩) ?_
                rotate_left
                · intro w hSw
                  (try dsimp only at hSw)
                  go_simp
                  try with_reducible rfl
                try simp only [Act.put, List.setIfInBounds_toArray, List.set_cons_zero, List.set_cons_succ]
                refine WT.take (i := 7) (v := ?_) rfl (by kernel_rfl) (by kernel_rfl) (by kernel_rfl) (by rfl) (by kernel_rfl) (fun _ _ _ h => h) (Or.inl ⟨by rfl, ?_⟩) ?_
                rotate_left
                · intro w hSw
                  (try dsimp only at hSw)
                  go_simp
                  try with_reducible rfl
                try simp only [Act.put, List.setIfInBounds_toArray, List.set_cons_zero, List.set_cons_succ]
                refine WT.take (i := 8) (v := ?_) rfl (by kernel_rfl) (by kernel_rfl) (by kernel_rfl) (by rfl) (by kernel_rfl) (fun _ _ _ h => h) (Or.inl ⟨by rfl, ?_⟩) ?_
                rotate_left
                · intro w hSw
                  (try dsimp only at hSw)
                  go_simp
                  try with_reducible rfl
                try simp only [Act.put, List.setIfInBounds_toArray, List.set_cons_zero, List.set_cons_succ]
                refine WT.take (i := 9) (v := ?_) rfl (by kernel_rfl) (by kernel_rfl) (by kernel_rfl) (by rfl) (by kernel_rfl) (fun _ _ _ h => h) (Or.inl ⟨by rfl, ?_⟩) ?_
                rotate_left
                · intro w hSw
                  (try dsimp only at hSw)
                  go_simp
                  try with_reducible rfl
                try simp only [Act.put, List.setIfInBounds_toArray, List.set_cons_zero, List.set_cons_succ]
                refine WT.ready (rs := [10]) (by kernel_rfl) (by simp) ?_
                refine RT.cons rfl (by rfl) (fun K hK => ?_) RT.nil
                go_simp
                refine hK.out _ _ (by exact HSX.out _ y0) ?_
                clear hK K
                refine WT.ready (rs := [11]) (by kernel_rfl) (by simp) ?_
                refine RT.cons rfl (by rfl) (fun K hK => ?_) RT.nil
                refine step_app entsT (by omega) _ rfl rfl (by simp [Act.eval]) hown' (by first | (simp [Act.eval]; rfl) | (simp [Act.eval]; done)) hrdN (ecells_one _ _ _ _) (by omega) (by omega) (by simp; omega) ?_
                intro v6 w6 hown6 hg6 hat6
                obtain ⟨A6, c6, rfl, _⟩ := own_form hown6
                obtain ⟨k1, k2⟩ := HT.out.step (y := ⟨((60 + z : Nat) : Int), none, 0, 0, []⟩) y0 ⟨Bs.nil_ _ _, Nat.le_refl _, by simp [maxLen], ⟨by dsimp only; omega, by dsimp only; omega⟩⟩ (by dsimp only; omega) hown6 hg6
                have x6 : Ext w w6 := Below.app (HT.out.ld.ex.trans y0) hg6 (by have := HT.out.ld.ex.size; simp; omega) hown' hgo
                have q3 := k1.cell 3
                have f3 := k1.frozen 3
                simp only [List.getElem?_cons_zero, List.getElem?_cons_succ] at q3
                have K2 := Lib.hid k2
                clear k2 hown6 hg6 hat6
                refine hK.out _ _ (by exact ⟨k1.cell 3, x6.cell HE0.out⟩) ?_
                clear hK K
                try simp only [Act.put, List.setIfInBounds_toArray, List.set_cons_zero, List.set_cons_succ]
                refine WT.take (i := 12) (v := ?_) rfl (by kernel_rfl) (by kernel_rfl) (by kernel_rfl) (by rfl) (by kernel_rfl) (fun _ _ _ h => h) (Or.inl ⟨by rfl, ?_⟩) ?_
                rotate_left
                · intro w hSw
                  (try dsimp only at hSw)
                  go_simp
                  try with_reducible rfl
                try simp only [Act.put, List.setIfInBounds_toArray, List.set_cons_zero, List.set_cons_succ]
                refine WT.last rfl (by kernel_rfl) (by kernel_rfl) (fun K hK => ?_)
                go_simp
                refine hK.out _ _ ?_
                clear hK K
                go_wp2_with fail
                go_roundw
                case rel => exact ⟨j + 1, A6, c6, _, val_int (by omega), by omega, by omega, K2.out⟩
                case measure => simp [intOf]; omega
            · have g2 : ¬ ((j : Int) < 12) := by omega
              clear hT
              go_wp2_with fail
              go_meet
              exact ⟨j, Ao, co, O, by omega, HT.out⟩
          · have g1 : ¬ ((j : Int) < m) := by omega
            clear hT
            go_wp2_with fail
            go_meet
            exact ⟨j, Ao, co, O, by omega, HT.out⟩
    case rest =>
      clear HT0
      obtain ⟨j2, Ao, co, O, hj2, hT⟩ := hcut
      obtain ⟨W5, rfl⟩ : ∃ W5, W5 = wc := ⟨_, rfl⟩
      have HT := Lib.hid hT
      clear hT
      apply_assumption
      have hT := HT.out
      have hL := hT.ld
      have hlenO := hT.len
      have q1 := hL.blk.cell 1
      have f1 := hL.blk.frozen 1
      simp only [List.getElem?_cons_zero, List.getElem?_cons_succ] at q1
      have HA := Lib.hid hT.al
      have HEN : Hid (EndI L O 0 0 n1) := Lib.hid ⟨hT.pm, by omega, by omega, by omega, by omega, by simp, .inl ⟨rfl, rfl, by omega⟩⟩
      have HLF : Hid (∀ f ∈ L, 1 ≤ f.term ∧ f.term ≤ 25 ∧ f.len ≤ 100) := Lib.hid fun f hf => (hL.es f hf).2
      have HLAST := Lib.hid hL.last
      have htn := hL.t0
      clear hT hL HT HI
      refine wp_seq_k ?_
      intro KA hKA
      go_cut [] (fun wx => AlI w wx gl go A1 n1 c1 L 99 Ao (k + j2) co O 3 0)
      case first =>
        go_wp2_with fail
        go_meet
        exact HA.out
      clear HA q1 f1
      have HA := Lib.hid hcut
      obtain ⟨W6, rfl⟩ : ∃ W6, W6 = wc := ⟨_, rfl⟩
      clear hcut
      apply_assumption
      have q3 := HA.out.b1.cell 3
      simp only [List.getElem?_cons_zero, List.getElem?_cons_succ] at q3
      have hwn : IntKind.i64.wrap ((n1 : Int) + 1) = 1 + (n1 : Int) := by rw [IntWalk.i64_in _ (by omega)]; omega
      refine wp_seq_k ?_
      intro KB hKB
      go_cut [15] (fun v wx => v = .int .i64 (1 + (n1 : Int)) ∧ W6 = wx)
      case first =>
        go_wp2_with fail
        go_meet
        exact ⟨rfl, rfl⟩
      obtain ⟨rfl, hw6⟩ := hcut
      subst hw6
      apply_assumption
      refine wp_seq_k ?_
      intro KC hKC
      go_cut [16] (fun v wx => v = .int .i64 0 ∧ W6 = wx)
      case first =>
        go_wp2_with fail
        go_meet
        exact ⟨rfl, rfl⟩
      obtain ⟨rfl, hw6⟩ := hcut
      subst hw6
      apply_assumption
      clear q3 hwn
      refine wp_seq_k ?_
      intro KR3 hKR3
      go_cut [15, 16, 17] (fun nx dn i wx => ∃ (Ao : Option Addr) (no co : Nat) (O : List EV) (tm_ vt : Int), dn = .int .i64 n1 ∧ AlI w wx gl go A1 n1 c1 L 99 Ao no co O tm_ vt ∧ n1 ≤ no ∧ (O.take n1).map EV.p = (L.take n1).map EV.p ∧ no ≤ 24)
      case first =>
        as_aux_lemma =>
          clear hKR hKR2 hKR3 hKA hKB hKC
          go_wp2_with fail
          go_loopw [15, 16, 17] (fun nx dn i wr => ∃ (a done j : Nat) (Ao : Option Addr) (no co : Nat) (O : List EV) (tm_ vt : Int), nx = .int .i64 (1 + (a : Int)) ∧ dn = .int .i64 done ∧ i = .int .i64 j ∧ AlI w wr gl go A1 n1 c1 L 99 Ao no co O tm_ vt ∧ EndI L O j done a) (fun _ _ i _ => 40 - (intOf i).toNat)
          case atStart => exact ⟨n1, 0, 0, Ao, k + j2, co, O, 3, 0, rfl, rfl, rfl, HA.out, HEN.out⟩
          case round =>
            clear HA HEN
            obtain ⟨a, done, j, Ao', no, co', O', tm_, vt, rfl, rfl, rfl, hA, hE⟩ := hrel
            obtain ⟨wx, rfl⟩ : ∃ wx, wx = wr := ⟨_, rfl⟩
            have HA := Lib.hid hA
            have HE := Lib.hid hE
            have hdl := hE.dl
            have hjb : j ≤ 13 := by rcases hE.st with ⟨_, h, _⟩ | ⟨_, h, _⟩ | ⟨_, _, h⟩ <;> omega
            have g1 : (j : Int) < 40 := by omega
            have hal := hE.al
            have hlO := hA.e2.len
            have hO24 := hE.ol
            have l3 := hA.b1.cell 3
            simp only [List.getElem?_cons_zero, List.getElem?_cons_succ] at l3
            by_cases hd : done < n1
            · as_aux_lemma =>
                have g2 : (done : Int) < n1 := by omega
                have l0 := hA.b1.cell 0
                have l1 := hA.b1.cell 1
                have l2 := hA.b1.cell 2
                simp only [List.getElem?_cons_zero, List.getElem?_cons_succ] at l0 l1 l2
                have hmay := makeY_ends A1 n1 c1 L a (by omega) (by omega) HLF.out
                have hte : I64 (termB L (a : Int)) := termB_i64 (fun f hf => by have := HLF.out f hf; exact ⟨by omega, by omega⟩) a
                have hmk := spread_Make ⟨0, 99, 0, A1, n1, c1, L⟩ 1 2 a 0 3 wx ⟨hA.e1.unmask, hA.h1, hA.k1, i0, i99, i0⟩ (by dsimp only; omega) (by dsimp only; omega) i1 i2 i0 i3 hte
                unfold SV.val at hmk
                dsimp only at hmk
                have HMK := Lib.hid hmk
                have HMAY := Lib.hid hmay
                have HTE := Lib.hid hte
                have hbl : (behB L a 4).length ≤ 4 := by rw [behB_4S L a (by omega), List.length_take]; omega
                have hbl2 : a + (behB L a 4).length ≤ n1 := by rw [behB_4S L a (by omega), List.length_take, List.length_drop]; omega
                clear hmk hmay hte hA hE
                go_wp2_with fail
                refine HMK.out.mono ?_
                rintro e w2 ⟨hh, x2⟩
                rcases hh with ⟨_, A2, c2, rfl, hown2⟩ | ⟨hbad, _⟩
                case inr => rw [HMAY.out] at hbad; cases hbad
                clear HMK l0 l1 l2 l3 g2
                have hA2 := HA.out.ext x2
                have hxes : Es w2 A2 (behB L a 4).length (behB L a 4) := Es.of_own hown2 (fun f hf => (HA.out.ext x2).e1.unmask.ok f (behB_mem2 L a 4 f hf))
                have hc2 := own_bd hown2
                unfold makeY LV.val
                dsimp only
                go_upto_region 25 with fail
                have hBX := Blk.new w2 47 [.int .i64 3, .int .i64 1, .int .i64 2, .int .i64 99, .int .i64 a, .int .i64 (termB L a), .int .i64 0, .int .i64 3, .bool false, .slice A2 (behB L a 4).length c2]
                have xa : Ext w2 (w2.alloc (.cells #[.int .i64 3, .int .i64 1, .int .i64 2, .int .i64 99, .int .i64 a, .int .i64 (termB L a), .int .i64 0, .int .i64 3, .bool false, .slice A2 (behB L a 4).length c2] 47)) := (Ext.refl w2).alloc _
                have hA3 := hA2.ext xa
                have hxes3 := hxes.ext xa
                generalize w2.heap.size = gx at hBX ⊢
                generalize w2.alloc (.cells #[.int .i64 3, .int .i64 1, .int .i64 2, .int .i64 99, .int .i64 a, .int .i64 (termB L a), .int .i64 0, .int .i64 3, .bool false, .slice A2 (behB L a 4).length c2] 47) = W7 at *
                have htk := take_all ⟨0, tm_, vt, Ao', no, co', O'⟩ ⟨3, 1, 2, 99, a, termB L a, 0, 3, false, A2, (behB L a 4).length, c2, behB L a 4⟩ W7 ⟨hA3.e2.unmask, hA3.h2, hA3.k2, i0, ⟨by have := hA3.tm0; dsimp only; omega, by have := hA3.tm0; dsimp only; omega⟩, hA3.vt_⟩
                  ⟨hxes3, hc2.1, hc2.2, i3, i1, i2, i99, ⟨by dsimp only; omega, by dsimp only; omega⟩, HTE.out, i0, i3⟩ (by dsimp only; omega) (by dsimp only; omega) HMAY.out rfl (by dsimp only; omega)
                unfold SV.val LV.val at htk
                dsimp only at htk
                have HTK := Lib.hid htk
                have HA3 := Lib.hid hA3
                obtain ⟨o0, o1, o2, o3⟩ : W7.cell? ⟨go, 0, none⟩ = some (.int .i64 0) ∧ W7.cell? ⟨go, 1, none⟩ = some (.int .i64 tm_) ∧ W7.cell? ⟨go, 2, none⟩ = some (.int .i64 vt) ∧ W7.cell? ⟨go, 3, none⟩ = some (.slice Ao' no co') := ⟨hA3.b2.cell 0, hA3.b2.cell 1, hA3.b2.cell 2, hA3.b2.cell 3⟩
                have x0' := hBX.cell 0
                have x1' := hBX.cell 1
                have x2' := hBX.cell 2
                have x3' := hBX.cell 3
                have x4' := hBX.cell 4
                have x5' := hBX.cell 5
                have x6' := hBX.cell 6
                have x7' := hBX.cell 7
                have x8' := hBX.cell 8
                have x9' := hBX.cell 9
                simp only [List.getElem?_cons_zero, List.getElem?_cons_succ] at x0' x1' x2' x3' x4' x5' x6' x7' x8' x9'
                clear htk hA3 hA2 hxes hxes3 hown2 xa x2 hc2 hBX
                go_wp2_with fail
                refine HTK.out.mono ?_
                rintro e w8 ⟨R, q, rc, recs, ok, kk, V, rfl, hRs, hq, hrun, hV, hcs, x8⟩
                dsimp only at hcs
                have hA8 := HA3.out.ext x8
                have hst := ref18_Steps_L 0 tm_ vt Ao' no co' O' R q rc recs _ (show RunR ⟨0, tm_, vt, O'.map EV.p⟩ recs ⟨0, max tm_ 99, V, (if ok = true then keptL O' (behB L a 4) (a : Int).toNat else O').map EV.p⟩ from hrun) w8 hA8.e2.unmask hA8.h2 hA8.k2 (by omega) hRs hq
                have htm : max tm_ (99 : Int) = 99 := by have := hA8.tm0; omega
                rw [htm] at hst
                have HST := Lib.hid hst
                have HA8 := Lib.hid hA8
                have HV := Lib.hid hV
                obtain ⟨p0, p1, p2, p3⟩ : w8.cell? ⟨go, 0, none⟩ = some (.int .i64 0) ∧ w8.cell? ⟨go, 1, none⟩ = some (.int .i64 tm_) ∧ w8.cell? ⟨go, 2, none⟩ = some (.int .i64 vt) ∧ w8.cell? ⟨go, 3, none⟩ = some (.slice Ao' no co') := ⟨hA8.b2.cell 0, hA8.b2.cell 1, hA8.b2.cell 2, hA8.b2.cell 3⟩
                clear HTK o0 o1 o2 o3 x0' x1' x2' x3' x4' x5' x6' x7' x8' x9' hst hA8 hV hRs hrun htm
                go_wp2_with fail
                refine HST.out.mono ?_
                rintro e w9 ⟨A3, n3, c3, l3, rfl, he3, hnc3, hcm3, hmap3, hn3, x9, hLI⟩
                dsimp only at hmap3
                dsimp only
                have hA9 := HA8.out.ext x9
                have hm9 : Es (mask (fun q => q == gl || q == go) w9) A3 n3 l3 := hLI.masked_ HA8.out.e2 x9 (fun q hq => by
                  simp only [Bool.or_eq_true, beq_iff_eq] at hq
                  rcases hq with rfl | rfl
                  · exact HA8.out.b1.lt
                  · exact HA8.out.b2.lt)
                clear HST p0 p1 p2 p3 hLI he3
                go_upto_region 29 with fail
                have hBT := Blk.new w9 45 [.int .i64 0, .int .i64 99, .int .i64 V, .slice A3 n3 c3]
                have xb : Ext w9 (w9.alloc (.cells #[.int .i64 0, .int .i64 99, .int .i64 V, .slice A3 n3 c3] 45)) := (Ext.refl w9).alloc _
                have hA10 := hA9.ext xb
                have hm10 := hm9.ext xb.masks
                have hgt : go < w9.heap.size := hA9.b2.lt
                generalize w9.heap.size = gt at hBT hgt ⊢
                generalize w9.alloc (.cells #[.int .i64 0, .int .i64 99, .int .i64 V, .slice A3 n3 c3] 45) = W10 at *
                have HP := Lib.hid (hA10.put (Ext.refl W10) HV.out hm10 hnc3 hcm3)
                have r0 := hBT.cell 0
                have r1 := hBT.cell 1
                have r2 := hBT.cell 2
                have r3 := hBT.cell 3
                have d0 := hA10.b2.cell 0
                have d1 := hA10.b2.cell 1
                have d2 := hA10.b2.cell 2
                have d3 := hA10.b2.cell 3
                have e0 := hA10.b2.frozen 0
                have e1 := hA10.b2.frozen 1
                have e2 := hA10.b2.frozen 2
                have e3 := hA10.b2.frozen 3
                simp only [List.getElem?_cons_zero, List.getElem?_cons_succ] at r0 r1 r2 r3 d0 d1 d2 d3
                have HMAP := Lib.hid hmap3
                clear hA9 hm9 xb hA10 hm10 hBT hmap3 x9 HA8 HA3
                go_upto_region 32 with fail
                generalize (((W10.setCell ⟨go, 0, none⟩ (.int .i64 0)).setCell ⟨go, 1, none⟩ (.int .i64 99)).setCell ⟨go, 2, none⟩ (.int .i64 V)).setCell ⟨go, 3, none⟩ (.slice A3 n3 c3) = W11 at *
                clear r0 r1 r2 r3 d0 d1 d2 d3 e0 e1 e2 e3 hgt
                rcases hcs with ⟨rfl, rfl, hno⟩ | ⟨rfl, rfl, hlow, hmt, ha0, han⟩
                · have hnn : termB O' (a : Int) ≠ termB L a := by
                    rcases hno with h | h
                    · have := HA.out.tm0; omega
                    · exact h
                  obtain ⟨hE2, hd0⟩ := HE.out.no hnn (o' := l3) (by have := HMAP.out; simpa using this)
                  have HE2 := Lib.hid hE2
                  have HNX := Lib.hid (spread_Next_no a (by omega) W11)
                  clear hno hnn hE2 hd0
                  iterate 11 go_step
                  refine wp_run_value (v := .agg #[.int .i64 4, .int .i64 2, .int .i64 1, .int .i64 99, .int .i64 0, .int .i64 0, .int .i64 0, .int .i64 3, .bool false, .slice none 0 0]) (build_done1 _ _ _ _ rfl rfl (fun _ => rfl) _ rfl) ?_
                  simp only [Act.put, List.setIfInBounds_toArray, List.set_cons_zero, List.set_cons_succ]
                  go_wp2_with (go_at_call 57; refine HNX.out.mono ?_; rintro e w12 ⟨rfl, x12⟩; have HP2 := Lib.hid (HP.out.ext x12); clear HNX x12)
                  go_roundw
                  case rel => exact ⟨0, done, j + 1, A3, n3, c3, l3, 99, V, rfl, rfl, val_int (by omega), HP2.out, HE2.out⟩
                  case measure => simp [intOf]; omega
                · have hE2 := HE.out.yes (fun f hf => (HLF.out f hf).1) (by omega) (by omega) hmt (o' := l3) (by have := HMAP.out; simpa using this)
                  have HE2 := Lib.hid hE2
                  have hnx := spread_Next_yes (1 + (a : Int)) (a + (behB L a 4).length) (by omega) W11
                  have ecast : (((a + (behB L a 4).length : Nat)) : Int) = (a : Int) + ((behB L a 4).length : Int) := by omega
                  rw [ecast] at hnx
                  have HNX := Lib.hid hnx
                  clear hE2 hnx hlow hmt ha0 han
                  have HEC := Lib.hid ecast
                  clear ecast
                  iterate 11 go_step
                  refine wp_run_value (v := .agg #[.int .i64 4, .int .i64 2, .int .i64 1, .int .i64 99, .int .i64 ((a : Int) + ((behB L a 4).length : Int)), .int .i64 0, .int .i64 0, .int .i64 3, .bool true, .slice none 0 0]) (build_done1 _ _ _ _ rfl rfl (fun _ => rfl) _ rfl) ?_
                  simp only [Act.put, List.setIfInBounds_toArray, List.set_cons_zero, List.set_cons_succ]
                  go_wp2_with (go_at_call 57; refine HNX.out.mono ?_; rintro e w12 ⟨rfl, x12⟩; have HP2 := Lib.hid (HP.out.ext x12); clear HNX x12)
                  go_roundw
                  case rel => exact ⟨a + (behB L a 4).length, a + (behB L a 4).length, j + 1, A3, n3, c3, l3, 99, V, by rw [HEC.out], by rw [HEC.out], val_int (by omega), HP2.out, HE2.out⟩
                  case measure => simp [intOf]; omega
            · as_aux_lemma =>
                have g2 : ¬ ((done : Int) < n1) := by omega
                have hdn : done = n1 := by omega
                subst hdn
                have hdo := hE.do_
                clear hA hE
                go_wp2_with fail
                go_meet
                exact ⟨Ao', no, co', O', tm_, vt, rfl, HA.out, by omega, HE.out.pre, by omega⟩
      case rest =>
        clear HA HEN
        obtain ⟨Ao', no, co', O', tm_, vt, rfl, hA, hno, hpre, hno24⟩ := hcut
        obtain ⟨W8, rfl⟩ : ∃ W8, W8 = wc := ⟨_, rfl⟩
        have HA := Lib.hid hA
        apply_assumption
        as_aux_lemma =>
          have hlenL : L.length = n1 := hA.e1.len
          have hp : (O'.take n1).map EV.p = L.map EV.p := by rw [hpre, List.take_of_length_le (by omega)]
          have HSL := Lib.hid (fun (V : World) (h : Ext W8 V) => ref11_SameLog Ao' A1 n1 co' c1 (O'.take n1) L V ((HA.out.ext h).e2.unmask.upto hno) (HA.out.ext h).e1.unmask hp (by omega))
          have HS9 : Hid (∀ (V : World), Ext W8 V → (V.cell? ⟨go, 3, none⟩ = some (.slice Ao' no co') ∧ V.cell? ⟨gl, 3, none⟩ = some (.slice A1 n1 c1))) := Lib.hid fun V h => ⟨(HA.out.ext h).b2.cell 3, (HA.out.ext h).b1.cell 3⟩
          obtain ⟨o3, l3⟩ := HS9.out _ (Ext.refl W8)
          have g1 : ¬ ((no : Int) < n1) := by omega
          have g2 := dec_f g1
          have hoc := hA.h2
          have b0 : (0 : Int) ≤ n1 := by omega
          have b1 : (n1 : Int) ≤ co' := by omega
          have y0 : Ext W8 W8.drew := (Ext.refl W8).drew
          clear hp hpre hA
          go_upto_region 37 with fail
          clear g1 g2
          go_region_held3 (fun V => V.cell? ⟨go, 3, none⟩ = some (.slice Ao' no co') ∧ V.cell? ⟨gl, 3, none⟩ = some (.slice A1 n1 c1))
            (first | (exact HS9.out _ y1) | (exact HS9.out _ y0) | (exact HS9.out _ (Ext.refl W8)) | go_keep)
            (first | (go_at_call 23; refine (HSL.out _ y0).mono ?_; rintro e w9 ⟨rfl, y1'⟩; have y1 := y0.trans y1'))
          all_goals
            have hA9 := HA.out.ext y1
            have t1 := hA9.b1.cell 1
            have u1 := hA9.b1.frozen 1
            simp only [List.getElem?_cons_zero, List.getElem?_cons_succ] at t1
            have HB9 := Lib.hid (hA9.b1.set_ 1 (.int .i64 tn))
            have HE9 := Lib.hid ((hA9.e1.ext ((Fr.setCell (F := fun q => q == gl || q == go) w9 (p := ⟨gl, 1, none⟩) (by simp) (.int .i64 tn)).masks (fun _ _ => rfl))).unmask)
            have HX9 := Lib.hid (hA9.ex.setCell (p := ⟨gl, 1, none⟩) hA9.lg (.int .i64 tn))
            clear hA9 y0 y1 y1' HSL o3 l3 b1
            go_upto_region 41 with fail
            generalize w9.setCell ⟨gl, 1, none⟩ (.int .i64 tn) = W9 at *
            clear t1 u1
            have hb := HB9.out
            simp only [List.set_cons_succ, List.set_cons_zero] at hb
            have k0 := hb.cell 0
            have k1 := hb.cell 1
            have k2 := hb.cell 2
            have k3 := hb.cell 3
            simp only [List.getElem?_cons_zero, List.getElem?_cons_succ] at k0 k1 k2 k3
            have HB := Lib.hid hb
            clear hb HB9
            go_wp2_with fail
            refine (spread_Commit_two 0 tn 0 A1 n1 c1 L _ 3 n1 _ (HE9.out.ext ((Ext.refl W9).alloc _)) (by omega) (Rd.block (size := 1) W9 #[.int .i64 n1, .int .i64 n1, .int .i64 0] _ 3 rfl) (Nat.le_refl _) HLAST.out).mono ?_
            rintro e w10 ⟨rfl, x10⟩
            have xk : Ext W9 w10 := ((Ext.refl W9).alloc _).trans x10
            have k4 := (HB.out.ext xk).cell 3
            simp only [List.getElem?_cons_zero, List.getElem?_cons_succ] at k4
            have XK := Lib.hid xk
            clear k0 k1 k2 k3 xk x10
            go_wp2_with fail
            go_ret
            exact ⟨rfl, HX9.out.trans XK.out⟩
end Go.Proofs.Ytcdnjhcddbkciaa
