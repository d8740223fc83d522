/- The walk of less of layer 7's laws. (Printed by wip/tools/stless.py.) -/
import Derived.Test.YtiildgoaiookhaaStB
import Derived.Test.YtiildgoaiookhaaRec
namespace Go.Proofs.Ytiildgoaiookhaa
open Go.RowKit

/-- a snapshot with at most 12 chunks and 40 bytes of text -/
def cutN (f : NV) : NV := ⟨f.id, f.set, f.A, min f.len 12, f.cap, f.ch.take 12, f.held, if 40 < f.tag.size then f.tag.extract 0 40 else f.tag⟩
theorem ext40 (s : ByteArray) (h : 40 < s.size) : (s.extract 0 40).size = 40 := by
  rw [ByteArray.size_extract]; omega
theorem cutN_ok {f : NV} {w : World} (h : f.Ok w) : (cutN f).Ok w := by
  have hl := h.cs.len
  refine ⟨h.u0, h.u1, ?_, ?_, h.cap, fun x hx => h.uc x (List.mem_of_mem_take hx), ?_⟩
  · unfold cutN
    dsimp only
    by_cases h12 : 12 < f.len
    · rw [show min f.len 12 = 12 by omega]; exact h.cs.upto (by omega)
    · rw [show min f.len 12 = f.len by omega, List.take_of_length_le (by omega)]; exact h.cs
  · have := h.le; unfold cutN; dsimp only; omega
  · have := h.ut
    unfold cutN; dsimp only
    split
    · rename_i h40; rw [ext40 _ h40]; unfold maxLen; omega
    · exact this
theorem cutN_len (f : NV) : (cutN f).len ≤ 12 := by unfold cutN; dsimp only; omega
theorem cutN_tag (f : NV) : (cutN f).tag.size ≤ 40 := by
  unfold cutN; dsimp only
  split
  · rename_i h; rw [ext40 _ h]; exact Nat.le_refl _
  · omega
def cutSn (l : List NV) : List NV := (l.take 20).map cutN
theorem cutSn_len (l : List NV) : (cutSn l).length = min 20 l.length := by simp [cutSn]
theorem cutSn_snoc (l : List NV) (j : Nat) (h : j < l.length) (hm : j < 20) : (cutSn l).take (j + 1) = (cutSn l).take j ++ [cutN l[j]] := by
  have hl : j < (cutSn l).length := by rw [cutSn_len]; omega
  rw [List.take_succ_eq_append_getElem hl]
  congr 2
  simp [cutSn]
/-- a catalogue of at most 20 clients, open backups and snapshots -/
def lessK (s : KV) (A : Option Addr) (c : Nat) : KV := ⟨s.ver, s.next, s.keep, s.quota, s.A1, min s.n1 20, s.c1, s.ses.take 20, s.A2, min s.n2 20, s.c2, s.ops.take 20, A, min 20 s.n3, c, cutSn s.sns⟩
theorem ncells_one (a b : Int) (A : Option Addr) (ln cp : Nat) (hd : Bool) (tg : ByteArray) : ∀ u ∈ [Value.int .i64 a, .int .i64 b, .slice A ln cp, .bool hd, .string tg], u.oneCell' = true := by
  intro u hu
  simp only [List.mem_cons, List.not_mem_nil, or_false] at hu
  rcases hu with rfl | rfl | rfl | rfl | rfl <;> rfl
theorem own_cap {w : World} {base : Nat} {e : TypeId} {size n c : Nat} {A : Option Addr} {xs : List Value} (h : w.ownsRow base e size (.slice A n c) n xs) : n ≤ c ∧ c ≤ maxLen := by
  rcases h.2 with ⟨hv, h0⟩ | ⟨g, cap, cur, hv, hb, hg, hc, hm, _⟩
  · injection hv with _ _ hc; subst hc; exact ⟨by omega, by unfold maxLen; omega⟩
  · injection hv with _ _ hc'; subst hc'; exact ⟨hc, hm⟩
theorem Ts.cut {α : Type} {size : Nat} [T : Thing α size] {w : World} {A : Option Addr} {n : Nat} {l : List α} (h : Ts w A n l) (k : Nat) : Ts w A (min n k) (l.take k) := by
  have := h.upto (hi := min n k) (by omega)
  have e : l.take (min n k) = l.take k := by
    rw [← h.len]
    by_cases hk : k ≤ l.length
    · rw [show min l.length k = k by omega]
    · rw [show min l.length k = l.length by omega, List.take_of_length_le (Nat.le_refl _), List.take_of_length_le (by omega)]
  rw [e] at this
  exact this

theorem lessK_ok {s : KV} {w w' : World} (hs : s.Ok w) (hx : Ext w w') {B : Nat} {A : Option Addr} {c : Nat} (ho : w'.ownsRow B 33 5 (.slice A (min 20 s.n3) c) (min 20 s.n3) (thingsOf (cutSn s.sns))) : (lessK s A c).Ok w' := by
  have hc := own_cap ho
  have l1 := hs.le1
  have l2 := hs.le2
  refine ⟨hs.u0, hs.u1, hs.u2, hs.u3, (hs.t1.cut 20).ext hx, by dsimp only [lessK]; omega, hs.cap1, (hs.t2.cut 20).ext hx, by dsimp only [lessK]; omega, hs.cap2, ?_, hc.1, hc.2⟩
  exact Ts.of_own ho (fun f hf => by
    obtain ⟨g, hg, rfl⟩ := List.mem_map.1 hf
    exact (cutN_ok (hs.t3.ok g (List.mem_of_mem_take hg))).ext hx) (by omega)
set_option maxRecDepth 100000 in
set_option maxHeartbeats 3200000 in
theorem law07_less (s : KV) (w : World) (hs : s.Ok w) :
    Calls Try.prog 16 #[s.val] w fun e w' => ∃ A c, e = .returned (lessK s A c).val ∧ w'.ownsRow w.heap.size 33 5 (.slice A (min 20 s.n3) c) (min 20 s.n3) (thingsOf (cutSn s.sns)) ∧ Ext w w' := by
  obtain ⟨ver, next, keep, quota, A1, n1, c1, ses, A2, n2, c2, ops, A3, n3, c3, sns⟩ := s
  obtain ⟨u0, u1, u2, u3, t1, le1, cap1, t2, le2, cap2, t3, le3, cap3⟩ := hs
  dsimp only at u0 u1 u2 u3 t1 le1 cap1 t2 le2 cap2 t3 le3 cap3
  unfold KV.val
  dsimp only
  have hn1 : n1 ≤ 9223372036854775807 := by unfold maxLen at cap1; omega
  have hn2 : n2 ≤ 9223372036854775807 := by unfold maxLen at cap2; omega
  have hn3 : n3 ≤ 9223372036854775807 := by unfold maxLen at cap3; omega
  have hl3 := t3.len
  clear t1 t2 u0 u1 u2 u3
  have hB0 := (Blk.new w 26 [.int .i64 ver, .int .i64 next, .int .i64 keep, .int .i64 quota, .slice A1 n1 c1, .slice A2 n2 c2, .slice A3 n3 c3]).alloc (.cells #[.int .i64 0, .int .i64 0, .int .i64 0, .int .i64 0, .slice none 0 0, .slice none 0 0, .slice none 0 0] 26)
  have hB20 := Blk.new (w.alloc (.cells #[.int .i64 ver, .int .i64 next, .int .i64 keep, .int .i64 quota, .slice A1 n1 c1, .slice A2 n2 c2, .slice A3 n3 c3] 26)) 26 [.int .i64 0, .int .i64 0, .int .i64 0, .int .i64 0, .slice none 0 0, .slice none 0 0, .slice none 0 0]
  have hx0 : Ext w ((w.alloc (.cells #[.int .i64 ver, .int .i64 next, .int .i64 keep, .int .i64 quota, .slice A1 n1 c1, .slice A2 n2 c2, .slice A3 n3 c3] 26)).alloc (.cells #[.int .i64 0, .int .i64 0, .int .i64 0, .int .i64 0, .slice none 0 0, .slice none 0 0, .slice none 0 0] 26)) := ((Ext.refl w).alloc _).alloc _
  have hz0 : ((w.alloc (.cells #[.int .i64 ver, .int .i64 next, .int .i64 keep, .int .i64 quota, .slice A1 n1 c1, .slice A2 n2 c2, .slice A3 n3 c3] 26)).alloc (.cells #[.int .i64 0, .int .i64 0, .int .i64 0, .int .i64 0, .slice none 0 0, .slice none 0 0, .slice none 0 0] 26)).heap.size = w.heap.size + 2 := by simp
  rw [show (w.alloc (.cells #[.int .i64 ver, .int .i64 next, .int .i64 keep, .int .i64 quota, .slice A1 n1 c1, .slice A2 n2 c2, .slice A3 n3 c3] 26)).heap.size = w.heap.size + 1 by simp] at hB20
  go_enter Try.func16, Try.ntmps16
  go_upto_if 9 with fail
  generalize ((w.alloc (.cells #[.int .i64 ver, .int .i64 next, .int .i64 keep, .int .i64 quota, .slice A1 n1 c1, .slice A2 n2 c2, .slice A3 n3 c3] 26)).alloc (.cells #[.int .i64 0, .int .i64 0, .int .i64 0, .int .i64 0, .slice none 0 0, .slice none 0 0, .slice none 0 0] 26)) = W0 at *
  go_cut [3] (fun _ wx => Blk wx w.heap.size 26 [.int .i64 ver, .int .i64 next, .int .i64 keep, .int .i64 quota, .slice A1 (min n1 20) c1, .slice A2 n2 c2, .slice A3 n3 c3] ∧ Blk wx (w.heap.size + 1) 26 [.int .i64 0, .int .i64 0, .int .i64 0, .int .i64 0, .slice none 0 0, .slice none 0 0, .slice none 0 0] ∧ Ext w wx ∧ wx.heap.size = w.heap.size + 2)
  case first =>
    by_cases h : 20 < n1
    · have hmin : min n1 20 = 20 := by omega
      have Hmin := Lib.hid hmin
      clear hmin
      have d0 := hB0.cell 0
      have d1 := hB0.cell 1
      have d2 := hB0.cell 2
      have d3 := hB0.cell 3
      have d4 := hB0.cell 4
      have d5 := hB0.cell 5
      have d6 := hB0.cell 6
      simp only [List.getElem?_cons_zero, List.getElem?_cons_succ] at d0 d1 d2 d3 d4 d5 d6
      have f4 := hB0.frozen 4
      go_wp2_with fail
      go_meet
      rw [Hmin.out]
      exact ⟨hB0.set_ 4 _, hB20.far (by simp) _, hx0.setCell (Nat.le_refl _) _, by simpa using hz0⟩
    · have hmin : min n1 20 = n1 := by omega
      have Hmin := Lib.hid hmin
      clear hmin
      go_wp2_with fail
      go_meet
      rw [Hmin.out]
      exact ⟨hB0, hB20, hx0, hz0⟩
  case rest =>
    obtain ⟨hB1, hB21, hx1, hz1⟩ := hcut
    clear hB0 hB20 hx0 hz0
    obtain ⟨W1, rfl⟩ : ∃ W1 : World, W1 = wc := ⟨_, rfl⟩
    have d0 := hB1.cell 0
    have d1 := hB1.cell 1
    have d2 := hB1.cell 2
    have d3 := hB1.cell 3
    have d4 := hB1.cell 4
    have d5 := hB1.cell 5
    have d6 := hB1.cell 6
    simp only [List.getElem?_cons_zero, List.getElem?_cons_succ] at d0 d1 d2 d3 d4 d5 d6
    go_upto_if 17 with fail
    clear d0 d1 d2 d3 d4 d5 d6
    go_cut [3] (fun _ wx => Blk wx w.heap.size 26 [.int .i64 ver, .int .i64 next, .int .i64 keep, .int .i64 quota, .slice A1 (min n1 20) c1, .slice A2 (min n2 20) c2, .slice A3 n3 c3] ∧ Blk wx (w.heap.size + 1) 26 [.int .i64 0, .int .i64 0, .int .i64 0, .int .i64 0, .slice none 0 0, .slice none 0 0, .slice none 0 0] ∧ Ext w wx ∧ wx.heap.size = w.heap.size + 2)
    case first =>
      by_cases h : 20 < n2
      · have hmin : min n2 20 = 20 := by omega
        have Hmin := Lib.hid hmin
        clear hmin
        have d0 := hB1.cell 0
        have d1 := hB1.cell 1
        have d2 := hB1.cell 2
        have d3 := hB1.cell 3
        have d4 := hB1.cell 4
        have d5 := hB1.cell 5
        have d6 := hB1.cell 6
        simp only [List.getElem?_cons_zero, List.getElem?_cons_succ] at d0 d1 d2 d3 d4 d5 d6
        have f5 := hB1.frozen 5
        go_wp2_with fail
        go_meet
        rw [Hmin.out]
        exact ⟨hB1.set_ 5 _, hB21.far (by simp) _, hx1.setCell (Nat.le_refl _) _, by simpa using hz1⟩
      · have hmin : min n2 20 = n2 := by omega
        have Hmin := Lib.hid hmin
        clear hmin
        go_wp2_with fail
        go_meet
        rw [Hmin.out]
        exact ⟨hB1, hB21, hx1, hz1⟩
    case rest =>
      obtain ⟨hB2, hB22, hx2, hz2⟩ := hcut
      clear hB1 hB21 hx1 hz1
      obtain ⟨W2, rfl⟩ : ∃ W2 : World, W2 = wc := ⟨_, rfl⟩
      have h0 := own_empty W2 33 5
      rw [hz2] at h0
      have Hz := Lib.hid hz2
      clear hz2
      go_wp2_with fail
      go_loopw [3, 4] (fun v i wr => ∃ j : Nat, i = .int .i64 j ∧ j ≤ n3 ∧ j ≤ 20 ∧ wr.ownsRow (w.heap.size + 2) 33 5 v j (thingsOf ((cutSn sns).take j)) ∧ Blk wr w.heap.size 26 [.int .i64 ver, .int .i64 next, .int .i64 keep, .int .i64 quota, .slice A1 (min n1 20) c1, .slice A2 (min n2 20) c2, .slice A3 n3 c3] ∧ Blk wr (w.heap.size + 1) 26 [.int .i64 0, .int .i64 0, .int .i64 0, .int .i64 0, .slice none 0 0, .slice none 0 0, .slice none 0 0] ∧ Ext w wr) (fun _ i _ => 20 - (intOf i).toNat)
      case atStart => exact ⟨0, rfl, by omega, by omega, by simpa [thingsOf, Hz.out] using h0, hB2.alloc _, hB22.alloc _, hx2.alloc _⟩
      case round =>
        clear h0 hB2 hB22 hx2
        obtain ⟨j, rfl, hj, hjm, hown, hB, hB2, hx⟩ := hrel
        obtain ⟨v3, rfl⟩ : ∃ v3 : Value, v3 = u3 := ⟨_, rfl⟩
        have d0 := hB.cell 0
        have d1 := hB.cell 1
        have d2 := hB.cell 2
        have d3 := hB.cell 3
        have d4 := hB.cell 4
        have d5 := hB.cell 5
        have d6 := hB.cell 6
        simp only [List.getElem?_cons_zero, List.getElem?_cons_succ] at d0 d1 d2 d3 d4 d5 d6
        clear d0 d1 d2 d3 d4 d5
        have HB := Lib.hid hB
        have HB2 := Lib.hid hB2
        have Hlt := Lib.hid (fun k hk => (hown.lt k hk).1)
        clear hB hB2
        have hszw := HB2.out.lt
        by_cases hlt : j < n3 ∧ j < 20
        · obtain ⟨hjn, hj20⟩ := hlt
          have hjl : j < sns.length := by omega
          obtain ⟨bb, off, rfl, hlt, hc⟩ := (t3.ext hx).at_ hjn
          have hok : NV.Ok sns[j] w := t3.ok sns[j] (List.getElem_mem _)
          have hsn := cutSn_snoc sns j hjl hj20
          generalize sns[j] = f at *
          have c0 : wr.cell? ⟨bb, off + j * 5, none⟩ = some (.int .i64 f.id) := hc 0 (by omega)
          have c1 : wr.cell? ⟨bb, off + j * 5 + 1, none⟩ = some (.int .i64 f.set) := hc 1 (by omega)
          have c2_ : wr.cell? ⟨bb, off + j * 5 + 2, none⟩ = some (.slice f.A f.len f.cap) := hc 2 (by omega)
          have c3_ : wr.cell? ⟨bb, off + j * 5 + 3, none⟩ = some (.bool f.held) := hc 3 (by omega)
          have c4_ : wr.cell? ⟨bb, off + j * 5 + 4, none⟩ = some (.string f.tag) := hc 4 (by omega)
          have hle := hok.le
          have hcm := hok.cap
          have htg := hok.ut
          obtain ⟨a, b, A, ln, cp, ch, hd, tg⟩ := f
          dsimp only at c0 c1 c2_ c3_ c4_ hle hcm htg
          unfold maxLen at hcm htg
          have Hsn := Lib.hid hsn
          clear hsn hc hok Hz
          by_cases h12 : 12 < ln
          · by_cases h40 : 40 < tg.size
            · have Hcut : Hid (cutN ⟨a, b, A, ln, cp, ch, hd, tg⟩ = ⟨a, b, A, 12, cp, ch.take 12, hd, (tg.extract 0 40)⟩) := Lib.hid (by unfold cutN; dsimp only; rw [if_pos h40, show min ln 12 = 12 by omega])
              have hsz40 : 40 < tg.size := by omega
              clear h40
              go_wp2_with (at_builtin; refine wpList_app snapsT (by omega) _ rfl rfl rfl ((hown.alloc _).alloc _) rfl (rd_at5 _ (.int .i64 a) (.int .i64 b) (.slice A 12 cp) (.bool hd) (.string (tg.extract 0 40)) _ _ (by simp)) (ncells_one _ _ _ _ _ _ _) (by unfold maxLen; omega) (by omega) (by simp; omega) ?_; intro v1 w1 hown1 hg1 hat1)
              have hlt' : ∀ k, v3.ownBlock = some k → w.heap.size + 2 ≤ k := fun k hk => (Hlt.out k hk)
              go_roundw
              case rel => exact ⟨j + 1, val_int (by omega), by omega, by omega, own_to hown1 (Nat.le_refl _) rfl (by rw [Hsn.out, thingsOf_append, thingsOf_one, Hcut.out]; rfl), ((HB.out.alloc _).alloc _).grown hg1 (fun e => by have := hlt' _ e.symm; omega), ((HB2.out.alloc _).alloc _).grown hg1 (fun e => by have := hlt' _ e.symm; omega), Below.app ((hx.alloc _).alloc _) hg1 (by simp; omega) ((hown.alloc _).alloc _) (by omega)⟩
              case measure => simp [intOf]; omega
            · have Hcut : Hid (cutN ⟨a, b, A, ln, cp, ch, hd, tg⟩ = ⟨a, b, A, 12, cp, ch.take 12, hd, tg⟩) := Lib.hid (by unfold cutN; dsimp only; rw [if_neg h40, show min ln 12 = 12 by omega])
              have hsz40 : tg.size ≤ 40 := by omega
              clear h40
              go_wp2_with (at_builtin; refine wpList_app snapsT (by omega) _ rfl rfl rfl ((hown.alloc _).alloc _) rfl (rd_at5 _ (.int .i64 a) (.int .i64 b) (.slice A 12 cp) (.bool hd) (.string tg) _ _ (by simp)) (ncells_one _ _ _ _ _ _ _) (by unfold maxLen; omega) (by omega) (by simp; omega) ?_; intro v1 w1 hown1 hg1 hat1)
              have hlt' : ∀ k, v3.ownBlock = some k → w.heap.size + 2 ≤ k := fun k hk => (Hlt.out k hk)
              go_roundw
              case rel => exact ⟨j + 1, val_int (by omega), by omega, by omega, own_to hown1 (Nat.le_refl _) rfl (by rw [Hsn.out, thingsOf_append, thingsOf_one, Hcut.out]; rfl), ((HB.out.alloc _).alloc _).grown hg1 (fun e => by have := hlt' _ e.symm; omega), ((HB2.out.alloc _).alloc _).grown hg1 (fun e => by have := hlt' _ e.symm; omega), Below.app ((hx.alloc _).alloc _) hg1 (by simp; omega) ((hown.alloc _).alloc _) (by omega)⟩
              case measure => simp [intOf]; omega
          · by_cases h40 : 40 < tg.size
            · have Hcut : Hid (cutN ⟨a, b, A, ln, cp, ch, hd, tg⟩ = ⟨a, b, A, ln, cp, ch.take 12, hd, (tg.extract 0 40)⟩) := Lib.hid (by unfold cutN; dsimp only; rw [if_pos h40, show min ln 12 = ln by omega])
              have hsz40 : 40 < tg.size := by omega
              clear h40
              go_wp2_with (at_builtin; refine wpList_app snapsT (by omega) _ rfl rfl rfl ((hown.alloc _).alloc _) rfl (rd_at5 _ (.int .i64 a) (.int .i64 b) (.slice A ln cp) (.bool hd) (.string (tg.extract 0 40)) _ _ (by simp)) (ncells_one _ _ _ _ _ _ _) (by unfold maxLen; omega) (by omega) (by simp; omega) ?_; intro v1 w1 hown1 hg1 hat1)
              have hlt' : ∀ k, v3.ownBlock = some k → w.heap.size + 2 ≤ k := fun k hk => (Hlt.out k hk)
              go_roundw
              case rel => exact ⟨j + 1, val_int (by omega), by omega, by omega, own_to hown1 (Nat.le_refl _) rfl (by rw [Hsn.out, thingsOf_append, thingsOf_one, Hcut.out]; rfl), ((HB.out.alloc _).alloc _).grown hg1 (fun e => by have := hlt' _ e.symm; omega), ((HB2.out.alloc _).alloc _).grown hg1 (fun e => by have := hlt' _ e.symm; omega), Below.app ((hx.alloc _).alloc _) hg1 (by simp; omega) ((hown.alloc _).alloc _) (by omega)⟩
              case measure => simp [intOf]; omega
            · have Hcut : Hid (cutN ⟨a, b, A, ln, cp, ch, hd, tg⟩ = ⟨a, b, A, ln, cp, ch.take 12, hd, tg⟩) := Lib.hid (by unfold cutN; dsimp only; rw [if_neg h40, show min ln 12 = ln by omega])
              have hsz40 : tg.size ≤ 40 := by omega
              clear h40
              go_wp2_with (at_builtin; refine wpList_app snapsT (by omega) _ rfl rfl rfl ((hown.alloc _).alloc _) rfl (rd_at5 _ (.int .i64 a) (.int .i64 b) (.slice A ln cp) (.bool hd) (.string tg) _ _ (by simp)) (ncells_one _ _ _ _ _ _ _) (by unfold maxLen; omega) (by omega) (by simp; omega) ?_; intro v1 w1 hown1 hg1 hat1)
              have hlt' : ∀ k, v3.ownBlock = some k → w.heap.size + 2 ≤ k := fun k hk => (Hlt.out k hk)
              go_roundw
              case rel => exact ⟨j + 1, val_int (by omega), by omega, by omega, own_to hown1 (Nat.le_refl _) rfl (by rw [Hsn.out, thingsOf_append, thingsOf_one, Hcut.out]; rfl), ((HB.out.alloc _).alloc _).grown hg1 (fun e => by have := hlt' _ e.symm; omega), ((HB2.out.alloc _).alloc _).grown hg1 (fun e => by have := hlt' _ e.symm; omega), Below.app ((hx.alloc _).alloc _) hg1 (by simp; omega) ((hown.alloc _).alloc _) (by omega)⟩
              case measure => simp [intOf]; omega
        · have hjm2 : j = min 20 n3 := by omega
          have hown' := own_to (base' := w.heap.size + 2) (ys := thingsOf (cutSn sns)) hown (by omega) rfl (by rw [List.take_of_length_le (by rw [cutSn_len]; omega)])
          obtain ⟨A', c', rfl, hc'⟩ := own_form hown'
          have Hown := Lib.hid hown'
          have HJ := Lib.hid hjm2
          have hcs : j = n3 ∨ j < n3 ∧ j = 20 := by omega
          clear hown hown' hc' hjm2 hlt Hz d6
          have d0 := HB.out.cell 0
          have d1 := HB.out.cell 1
          have d2 := HB.out.cell 2
          have d3 := HB.out.cell 3
          have d4 := HB.out.cell 4
          have d5 := HB.out.cell 5
          have d6 := HB.out.cell 6
          simp only [List.getElem?_cons_zero, List.getElem?_cons_succ] at d0 d1 d2 d3 d4 d5 d6
          have f6 := HB.out.frozen 6
          have g0 := HB2.out.cell 0
          have g1 := HB2.out.cell 1
          have g2 := HB2.out.cell 2
          have g3 := HB2.out.cell 3
          have g4 := HB2.out.cell 4
          have g5 := HB2.out.cell 5
          have g6 := HB2.out.cell 6
          simp only [List.getElem?_cons_zero, List.getElem?_cons_succ] at g0 g1 g2 g3 g4 g5 g6
          have r0 := HB2.out.frozen 0
          have r1 := HB2.out.frozen 1
          have r2 := HB2.out.frozen 2
          have r3 := HB2.out.frozen 3
          have r4 := HB2.out.frozen 4
          have r5 := HB2.out.frozen 5
          have r6 := HB2.out.frozen 6
          clear HB HB2
          rcases hcs with rfl | ⟨hjn, rfl⟩
          · go_wp2
            refine bodyPost_ret (v := .agg #[.int .i64 ver, .int .i64 next, .int .i64 keep, .int .i64 quota, .slice A1 (min n1 20) c1, .slice A2 (min n2 20) c2, .slice A' j c']) (by simp [results, Try.results16, go_sem, g0, g1, g2, g3, g4, g5, g6]) rfl ⟨A', c', ?_, ?_, ?_⟩
            · unfold lessK; dsimp only [KV.val]; rw [← HJ.out]
            · rw [← HJ.out]
              refine own_base (base := w.heap.size + 2) ?_ (by omega)
              repeat (refine own_set ?_ (by simp) _)
              exact Hown.out
            · repeat (refine Ext.setCell ?_ (by simp) _)
              exact hx
          · have t1 : decide ((20 : Int) < (n3 : Int)) = true := dec_t (by omega)
            go_wp2
            refine bodyPost_ret (v := .agg #[.int .i64 ver, .int .i64 next, .int .i64 keep, .int .i64 quota, .slice A1 (min n1 20) c1, .slice A2 (min n2 20) c2, .slice A' 20 c']) (by simp [results, Try.results16, go_sem, g0, g1, g2, g3, g4, g5, g6]) rfl ⟨A', c', ?_, ?_, ?_⟩
            · unfold lessK; dsimp only [KV.val]; rw [← HJ.out]
            · rw [← HJ.out]
              refine own_base (base := w.heap.size + 2) ?_ (by omega)
              repeat (refine own_set ?_ (by simp) _)
              exact Hown.out
            · repeat (refine Ext.setCell ?_ (by simp) _)
              exact hx
end Go.Proofs.Ytiildgoaiookhaa
