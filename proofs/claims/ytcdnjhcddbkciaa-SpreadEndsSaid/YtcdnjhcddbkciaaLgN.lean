/- The document's Merge, Behind and Major of layer 17. -/
import Derived.Test.YtcdnjhcddbkciaaLgE
import Derived.Test.YtcdnjhcddbkciaaLgF
import Derived.Test.YtcdnjhcddbkciaaCat
namespace Go.Proofs.Ytcdnjhcddbkciaa
open Go.RowKit

set_option maxRecDepth 100000 in
set_option maxHeartbeats 1600000 in
theorem logs_Merge (A : Option Addr) (n c : Nat) (l : List EV) (b : Int) (A' : Option Addr) (m c' : Nat) (add : List EV) (w : World) (h1 : Es w A n l) (h2 : Es w A' m add) (hn : n ≤ 1000) (hm : m ≤ 1000) (hnc : n ≤ c) (hmc : m ≤ c') :
    Calls Try.prog 28 #[.slice A n c, .int .i64 b, .slice A' m c'] w fun e w' => ∃ v, e = .returned (.tuple #[.int .i64 (mergeB l b add).1, v]) ∧ w'.ownsRow w.heap.size 36 2 v (mergeB l b add).2.length (logOf (mergeB l b add).2) ∧ Ext w w' := by
  have hl1 := h1.len
  by_cases c0 : b < 0
  · have e0 : mergeB l b add = (0, []) := by unfold mergeB; rw [if_pos (Or.inl c0)]
    rw [e0]
    have t0 := dec_t c0
    clear e0 hl1 h1 h2
    go_enter Try.func28, Try.ntmps28
    go_wp2
    go_ret2
    exact ⟨_, rfl, World.ownsRow_nil _ _ _ _, Ext.refl w⟩
  have t0 := dec_f c0
  obtain ⟨k, rfl⟩ : ∃ k : Nat, b = k := ⟨b.toNat, by omega⟩
  by_cases c1 : (n : Int) < k
  · have e0 : mergeB l k add = (0, []) := by unfold mergeB; rw [if_pos (Or.inr (by omega))]
    rw [e0]
    have t1 := dec_t (show n < k by omega)
    clear e0 hl1 h1 h2 c0
    go_enter Try.func28, Try.ntmps28
    go_wp2
    go_ret2
    exact ⟨_, rfl, World.ownsRow_nil _ _ _ _, Ext.refl w⟩
  have e0 : mergeB l k add = mrgB (l.drop k) add k := by unfold mergeB; rw [if_neg (by omega)]; rfl
  rw [e0]
  exact logs_Merge_in A n c l k A' m c' add w h1 h2 hn hm hnc hmc (by omega)

set_option maxRecDepth 100000 in
set_option maxHeartbeats 1600000 in
theorem ref17_Merge (A : Option Addr) (n c : Nat) (l : List EV) (b : Int) (A' : Option Addr) (m c' : Nat) (add : List EV) (w : World) (h1 : Es w A n l) (h2 : Es w A' m add) (hn : n ≤ 1000) (hm : m ≤ 1000) (hmc : m ≤ c') :
    Calls Try.prog 30 #[.slice A n c, .int .i64 b, .slice A' m c'] w fun e w' => ∃ A3 n3 c3, e = .returned (.tuple #[.int .i64 (mergeB l b add).1, .slice A3 n3 c3]) ∧ Es w' A3 n3 (mergeB l b add).2 ∧ Ext w w' := by
  have hl1 := h1.len
  by_cases c0 : b < 0
  · have e0 : mergeB l b add = (0, []) := by unfold mergeB; rw [if_pos (Or.inl c0)]
    rw [e0]
    have t0 := dec_t c0
    clear e0 hl1 h1 h2
    go_enter Try.func30, Try.ntmps30
    go_wp2
    go_ret2
    exact ⟨_, _, _, rfl, Es.nil_ _ _, Ext.refl w⟩
  have t0 := dec_f c0
  obtain ⟨k, rfl⟩ : ∃ k : Nat, b = k := ⟨b.toNat, by omega⟩
  by_cases c1 : (n : Int) < k
  · have e0 : mergeB l k add = (0, []) := by unfold mergeB; rw [if_pos (Or.inr (by omega))]
    rw [e0]
    have t1 := dec_t (show n < k by omega)
    clear e0 hl1 h1 h2 c0
    go_enter Try.func30, Try.ntmps30
    go_wp2
    go_ret2
    exact ⟨_, _, _, rfl, Es.nil_ _ _, Ext.refl w⟩
  have e0 : mergeB l k add = mrgB (l.drop k) add k := by unfold mergeB; rw [if_neg (by omega)]; rfl
  rw [e0]
  have hk : k ≤ n := by omega
  have t1 := dec_f (show ¬ n < k by omega)
  clear c0 c1 e0
  have hl2 := h2.len
  have hl3 : (l.drop k).length = n - k := by rw [List.length_drop]; omega
  have hget : ∀ j, (h : j < (l.drop k).length) → (h' : k + j < l.length) → (l.drop k)[j] = l[k + j] := fun j h h' => by rw [List.getElem_drop]
  have HGET := Lib.hid hget
  generalize hhv : l.drop k = hv at *
  clear hhv hget
  generalize hr : mrgB hv add k = r at *
  have h0 : mrgB (hv.drop 0) (add.drop 0) (k + 0) = r := hr
  have e1 : IntKind.i64.wrap ((k : Int) + 1) = (k : Int) + 1 := IntWalk.i64_in _ (by omega)
  clear hr
  go_enter Try.func30, Try.ntmps30
  go_wp2
  clear t0 t1
  go_loopw [8] (fun i wr => ∃ j : Nat, i = .int .i64 j ∧ j ≤ m ∧ j ≤ n - k ∧ Hid (mrgB (hv.drop j) (add.drop j) (k + j) = r) ∧ Ext w wr) (fun i _ => m - (intOf i).toNat)
  case atStart => exact ⟨0, rfl, by omega, by omega, Lib.hid h0, Ext.refl w⟩
  case round =>
    obtain ⟨j, rfl, hjm, hjn, Hr, hx⟩ := hrel
    clear h0
    by_cases hlt : j < m
    · have hja : j < add.length := by omega
      obtain ⟨A2, c2, hc2, hsl2, hts2⟩ := cut_ents entsT A' hjm hmc (j : Int) rfl
      have e2 : IntKind.i64.wrap ((k : Int) + 1 + j) = (k : Int) + 1 + j := IntWalk.i64_in _ (by omega)
      by_cases hge : n - k ≤ j
      · have hje : j = n - k := by omega
        have hr2 : r = (0, add.drop j) := by
          rw [← Hr.out, List.drop_eq_nil_of_le (by omega)]
          exact mrgB_end _ _ (by rw [Ne, List.drop_eq_nil_iff]; omega)
        have H2 := Lib.hid hr2
        have t3 := dec_t (show n < k + 1 + j by omega)
        have t4 := dec_t (show (n : Int) < (k : Int) + 1 + j by omega)
        have es2 := hts2 _ _ h2
        clear hr2 hje hge hts2
        go_upto_region 8 with fail
        go_quiet (fail)
        go_wp2
        go_ret2
        exact ⟨A2, _, c2, by rw [H2.out]; rfl, by rw [H2.out]; exact es2.ext (hx.drewN _), hx.drewN _⟩
      · have hjh : j < hv.length := by omega
        obtain ⟨b3, off3, hA3, d0, -⟩ := (h1.ext hx).at_ (show k + j < n by omega)
        obtain ⟨b4, off4, hA4, c0, -⟩ := (h2.ext hx).at_ hlt
        have hr3 := mrgB_at hv add (k + j) j hjh hja
        rw [Hr.out, HGET.out j hjh (by omega)] at hr3
        have t3 := dec_f (show ¬ n < k + 1 + j by omega)
        have t4 := dec_f (show ¬ (n : Int) < (k : Int) + 1 + j by omega)
        have es2 := hts2 _ _ h2
        have e3 : IntKind.i64.wrap ((k : Int) + 1 + j - 1) = ((k + j : Nat) : Int) := by rw [IntWalk.i64_in _ (by omega)]; omega
        subst hA3 hA4
        have q1 : ((k + j : Nat) : Int) < (n : Int) := by omega
        have q0 : (0 : Int) ≤ ((k + j : Nat) : Int) := by omega
        have q3 : (j : Int) < (m : Int) := by omega
        have q4 : (0 : Int) ≤ (j : Int) := by omega
        have hjk : j < n - k := by omega
        generalize (l[k + j]'(by omega)).term = zt at *
        generalize (add[j]).term = yt at *
        have HKJ := Lib.hid (rfl : k + j = k + j)
        have HR3a := Lib.hid hr3
        have HE5 := Lib.hid (show (k : Int) + 1 + j = ((k + j + 1 : Nat) : Int) by omega)
        clear hr3 HKJ
        have HJJ : Hid (k + (j + 1) = k + j + 1) := Lib.hid (by omega)
        generalize hi : k + j = i at e3 d0 q0 q1
        clear hi
        by_cases he : zt = yt
        · have hr3 := HR3a.out
          rw [if_pos he] at hr3
          have HR3 := Lib.hid hr3
          clear HR3a HE5
          have t5 := bne_f he
          clear hr3 hge hl2 hl3 hjh hja hsl2 hts2 hl1 HGET
          go_upto_region 9 with fail
          go_quiet (fail)
          go_wp2_with fail
          go_roundw
          case rel => exact ⟨j + 1, val_int (by omega), by omega, by omega, Lib.hid (by rw [HR3.out]; rfl), hx.drewN _⟩
          case measure => simp [intOf]; omega
        · have hr3 := HR3a.out
          rw [if_neg he] at hr3
          have HR3 := Lib.hid hr3
          clear HR3a
          have t5 := bne_t he
          clear hr3 hge hl2 hl3 hjh hja hts2 he hl1 HGET
          go_upto_region 9 with fail
          go_quiet (fail)
          go_upto_region 10 with fail
          go_quiet (fail)
          go_wp2
          go_ret2
          exact ⟨A2, m - j, c2, by rw [HR3.out]; dsimp only; rw [← HE5.out]; rfl, by rw [HR3.out]; exact es2.ext ((hx.drewN _).drewN _), (hx.drewN _).drewN _⟩
    · have hjm2 : j = m := by omega
      have hr4 : r = (0, []) := by rw [← Hr.out, List.drop_eq_nil_of_le (show add.length ≤ j by omega)]; exact mrgB_nil _ _
      have H4 := Lib.hid hr4
      clear hr4 Hr hl2 hl3 hlt hl1 HGET
      subst hjm2
      go_wp2
      go_ret2
      exact ⟨_, _, _, by rw [H4.out]; rfl, by rw [H4.out]; exact Es.nil_ _ _, hx⟩
end Go.Proofs.Ytcdnjhcddbkciaa
