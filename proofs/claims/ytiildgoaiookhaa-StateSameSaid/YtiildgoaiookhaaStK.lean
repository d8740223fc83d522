/- The walks of Kept of a catalogue. -/
import Derived.Test.YtiildgoaiookhaaStF
import Derived.Test.YtiildgoaiookhaaCut
namespace Go.Proofs.Ytiildgoaiookhaa
open Go.RowKit

theorem cut_things {α : Type} {size : Nat} [T : Thing α size] {P : Program} {t e : TypeId} {bytes : Nat} (S : SliceT P t e size bytes) (A : Option Addr) {n c lo : Nat} (hlo : lo ≤ n) (hnc : n ≤ c) (x : Int) (hx : x = lo) :
    ∃ A' c', n - lo ≤ c' ∧ (∀ w, (Instr.slice t (.slice A n c) (some (.int .i64 x)) none none).run P w = .ok (.slice A' (n - lo) c') w) ∧ ∀ w (l : List α), Ts w A n l → Ts w A' (n - lo) (l.drop lo) := by
  obtain ⟨A', c', h1, h2, h3⟩ := cut_from S A hlo hnc x hx
  exact ⟨A', c', h1, h2, fun w l h => ⟨by have := h3 w _ h.rd; rwa [← thingsOf_drop] at this, fun f hf => h.ok f (List.mem_of_mem_drop hf), h.pos⟩⟩

/-- how many are of a set -/
def cntS (S : Int) (l : List NV) : Nat := (l.filter (fun y => y.set == S)).length
theorem cntS_cons (S : Int) (f : NV) (l : List NV) : cntS S (f :: l) = (if f.set = S then 1 else 0) + cntS S l := by
  unfold cntS
  rw [List.filter_cons]
  by_cases h : f.set = S
  · simp [h]; omega
  · simp [h]
theorem cntS_snoc (S : Int) (l : List NV) (j : Nat) (h : j < l.length) : cntS S (l.take (j + 1)) = cntS S (l.take j) + if l[j].set = S then 1 else 0 := by
  unfold cntS
  rw [List.take_succ_eq_append_getElem h, List.filter_append, List.length_append]
  congr 1
  by_cases e : l[j].set = S <;> simp [e]
theorem cntS_le (S : Int) (l : List NV) : cntS S l ≤ l.length := List.length_filter_le _ _
/-- is a snapshot among the last ones of its set -/
def keptB (keep : Int) (l : List NV) (at_ : Int) : Bool :=
  if h : 0 ≤ at_ ∧ at_.toNat < l.length then decide ((cntS (l[at_.toNat]'h.2).set (l.drop (at_.toNat + 1)) : Int) < keep) else false
theorem keptB_at (keep : Int) (l : List NV) (i : Nat) (h : i < l.length) : keptB keep l i = decide ((cntS l[i].set (l.drop (i + 1)) : Int) < keep) := by
  unfold keptB
  rw [dif_pos ⟨by omega, by simpa using h⟩]
  simp
theorem keptB_out (keep : Int) (l : List NV) (at_ : Int) (h : at_ < 0 ∨ (l.length : Int) ≤ at_) : keptB keep l at_ = false := by
  unfold keptB
  rw [dif_neg (by omega)]

set_option maxRecDepth 100000 in
set_option maxHeartbeats 1600000 in
theorem st_Kept (s : KV) (at_ : Int) (w : World) (hs : s.Ok w) (hn : s.n3 ≤ 1000000) :
    Calls Try.prog 19 #[s.val, .int .i64 at_] w fun e w' => e = .returned (.bool (keptB s.keep s.sns at_)) ∧ Ext w w' := by
  have ht := hs.t3
  have hle := hs.le3
  obtain ⟨ver, next, keep, quota, A1, n1, c1, ses, A2, n2, c2, ops, A3, n3, c3, sns⟩ := s
  unfold KV.val
  dsimp only at hn ht hle ⊢
  have hlen := ht.len
  clear hs
  have hB0 := Blk.new w 26 [.int .i64 ver, .int .i64 next, .int .i64 keep, .int .i64 quota, .slice A1 n1 c1, .slice A2 n2 c2, .slice A3 n3 c3]
  by_cases h0 : at_ < 0
  · rw [keptB_out _ _ _ (.inl h0)]
    go_enter Try.func19, Try.ntmps19
    go_wp2
    go_ret
    exact ⟨rfl, (Ext.refl w).alloc _⟩
  · by_cases h1 : (n3 : Int) ≤ at_
    · rw [keptB_out _ _ _ (.inr (by omega))]
      have h2 : decide (at_ < 0) = false := dec_f h0
      go_enter Try.func19, Try.ntmps19
      go_wp2
      go_ret
      exact ⟨rfl, (Ext.refl w).alloc _⟩
    · obtain ⟨i, rfl⟩ := Int.eq_ofNat_of_zero_le (show 0 ≤ at_ by omega)
      have hin : i < n3 := by omega
      have hil : i < sns.length := by omega
      have hi0 : (0 : Int) ≤ i := by omega
      have hi1 : (i : Int) < n3 := by omega
      have hw1 : IntKind.i64.wrap ((i : Int) + 1) = (i : Int) + 1 := IntWalk.i64_in _ (by omega)
      rw [keptB_at _ _ _ hil]
      obtain ⟨A', c', hc', hsl, hts⟩ := cut_things (α := NV) (P := Try.prog) snapsT A3 (show i + 1 ≤ n3 by omega) hle ((i : Int) + 1) (by omega)
      have ht2 := hts _ _ ht
      have hlen2 := ht2.len
      obtain ⟨bb0, off0, rfl, hlt0, hc0⟩ := ht.at_ hin
      have k1 : w.cell? ⟨bb0, off0 + i * 5 + 1, none⟩ = some (.int .i64 sns[i].set) := hc0 1 (by omega)
      clear hc0 hts hc'
      generalize sns[i].set = S at *
      generalize sns.drop (i + 1) = R at *
      have hnr : n3 - (i + 1) ≤ 1000000 := by omega
      generalize n3 - (i + 1) = m at *
      clear ht hlen hil hle
      go_enter Try.func19, Try.ntmps19
      go_wp2_with fail
      go_loopw [5, 23] (fun q i wr => ∃ j : Nat, i = .int .i64 j ∧ j ≤ m ∧ q = .int .i64 (cntS S (R.take j)) ∧ Blk wr w.heap.size 26 [.int .i64 ver, .int .i64 next, .int .i64 keep, .int .i64 quota, .slice A1 n1 c1, .slice A2 n2 c2, .slice (some ⟨bb0, off0, none⟩) n3 c3] ∧ Ext w wr) (fun _ i _ => m - (intOf i).toNat)
      case atStart => exact ⟨0, rfl, by omega, by simp [cntS], hB0, (Ext.refl w).alloc _⟩
      case round =>
        clear hB0
        obtain ⟨j, rfl, hj, rfl, hB, hx⟩ := hrel
        have hcl := cntS_le S (R.take j)
        have hcl2 : (R.take j).length ≤ j := List.length_take_le _ _
        by_cases hjn : j < m
        · obtain ⟨bb, off, rfl, hlt, hc⟩ := (ht2.ext hx).at_ hjn
          have hjl : j < R.length := by omega
          have hsn := cntS_snoc S R j hjl
          generalize R[j] = f at *
          have c0 : wr.cell? ⟨bb, off + j * 5, none⟩ = some (.int .i64 f.id) := hc 0 (by omega)
          have c1_ : wr.cell? ⟨bb, off + j * 5 + 1, none⟩ = some (.int .i64 f.set) := hc 1 (by omega)
          have c2_ : wr.cell? ⟨bb, off + j * 5 + 2, none⟩ = some (.slice f.A f.len f.cap) := hc 2 (by omega)
          have c3_ : wr.cell? ⟨bb, off + j * 5 + 3, none⟩ = some (.bool f.held) := hc 3 (by omega)
          have c4_ : wr.cell? ⟨bb, off + j * 5 + 4, none⟩ = some (.string f.tag) := hc 4 (by omega)
          have xa : Ext wr (wr.alloc (.cells #[.int .i64 f.id, .int .i64 f.set, .slice f.A f.len f.cap, .bool f.held, .string f.tag] 33)) := (Ext.refl wr).alloc _
          have hBa := hB.alloc (.cells #[.int .i64 f.id, .int .i64 f.set, .slice f.A f.len f.cap, .bool f.held, .string f.tag] 33)
          have d6 := hBa.cell 6
          simp only [List.getElem?_cons_zero, List.getElem?_cons_succ] at d6
          have k2 := (hx.trans xa).cell k1
          have Hsn := Lib.hid hsn
          have HB := Lib.hid hB
          clear hc hsn hB hBa
          have hj0 : (0 : Int) ≤ j := by omega
          have hj1 : (j : Int) < m := by omega
          generalize cntS S (R.take j) = K at *
          by_cases hk : f.set = S
          · have Hk := Lib.hid hk
            have hk' := beq_t hk
            clear hk
            go_wp2
            go_quiet (fail)
            go_wp2
            go_roundw
            case rel => exact ⟨j + 1, val_int (by omega), by omega, val_int (by rw [Hsn.out, if_pos Hk.out]; omega), ((HB.out.alloc _).ext ((Ext.refl _).drewN _)), (hx.trans xa).drewN _⟩
            case measure => simp [intOf]; omega
          · have Hk := Lib.hid hk
            have hk' := beq_f hk
            clear hk
            go_wp2
            go_quiet (fail)
            go_wp2
            go_roundw
            case rel => exact ⟨j + 1, val_int (by omega), by omega, val_int (by rw [Hsn.out, if_neg Hk.out]; omega), ((HB.out.alloc _).ext ((Ext.refl _).drewN _)), (hx.trans xa).drewN _⟩
            case measure => simp [intOf]; omega
        · obtain rfl : m = j := by omega
          rw [List.take_of_length_le (by omega)]
          have d2 := hB.cell 2
          simp only [List.getElem?_cons_zero, List.getElem?_cons_succ] at d2
          clear hB
          go_wp2
          go_ret
          exact ⟨rfl, hx⟩
end Go.Proofs.Ytiildgoaiookhaa
