/- Merge and Behind of logs. -/
import Derived.Test.YtcdnjhcddbkciaaLgC
import Derived.Test.YtcdnjhcddbkciaaCut
namespace Go.Proofs.Ytcdnjhcddbkciaa
open Go.RowKit

/-- what is put behind, and from where on what was is cut off -/
def mrgB : List EV → List EV → Nat → Nat × List EV
  | _, [], _ => (0, [])
  | [], x :: r, _ => (0, x :: r)
  | h :: t, x :: r, p => if h.term = x.term then mrgB t r (p + 1) else (p + 1, x :: r)
def mergeB (l : List EV) (b : Int) (add : List EV) : Nat × List EV := if b < 0 ∨ (l.length : Int) < b then (0, []) else mrgB (l.drop b.toNat) add b.toNat
theorem mrgB_nil (h : List EV) (p : Nat) : mrgB h [] p = (0, []) := by cases h <;> rfl
theorem mrgB_end (a : List EV) (p : Nat) (ha : a ≠ []) : mrgB [] a p = (0, a) := by cases a with | nil => exact absurd rfl ha | cons x r => rfl
theorem mrgB_at (h a : List EV) (p j : Nat) (hh : j < h.length) (ha : j < a.length) :
    mrgB (h.drop j) (a.drop j) p = if h[j].term = a[j].term then mrgB (h.drop (j + 1)) (a.drop (j + 1)) (p + 1) else (p + 1, a.drop j) := by
  rw [List.drop_eq_getElem_cons hh, List.drop_eq_getElem_cons ha]
  rfl
theorem cut_ents {P : Program} {t e : TypeId} {bytes : Nat} (S : SliceT P t e 2 bytes) (A : Option Addr) {n c lo : Nat} (hlo : lo ≤ n) (hnc : n ≤ c) (x : Int) (hx : x = lo) :
    ∃ A' c', n - lo ≤ c' ∧ (∀ w, (Instr.slice t (.slice A n c) (some (.int .i64 x)) none none).run P w = .ok (.slice A' (n - lo) c') w) ∧ ∀ w (l : List EV), Es w A n l → Es w A' (n - lo) (l.drop lo) := by
  obtain ⟨A', c', h1, h2, h3⟩ := cut_from S A hlo hnc x hx
  exact ⟨A', c', h1, h2, fun w l h => ⟨by have := h3 w _ h.rd; rwa [← logOf_drop] at this, fun f hf => h.ok f (List.mem_of_mem_drop hf)⟩⟩

set_option maxRecDepth 100000 in
set_option maxHeartbeats 1600000 in
theorem logs_Merge_in (A : Option Addr) (n c : Nat) (l : List EV) (k : Nat) (A' : Option Addr) (m c' : Nat) (add : List EV) (w : World) (h1 : Es w A n l) (h2 : Es w A' m add) (hn : n ≤ 1000) (hm : m ≤ 1000) (hnc : n ≤ c) (hmc : m ≤ c') (hk : k ≤ n) :
    Calls Try.prog 28 #[.slice A n c, .int .i64 k, .slice A' m c'] w fun e w' => ∃ v, e = .returned (.tuple #[.int .i64 (mrgB (l.drop k) add k).1, v]) ∧ w'.ownsRow w.heap.size 36 2 v (mrgB (l.drop k) add k).2.length (logOf (mrgB (l.drop k) add k).2) ∧ Ext w w' := by
  have hl1 := h1.len
  have hl2 := h2.len
  obtain ⟨A1, c1, hc1, hsl, hts⟩ := cut_ents entsT A hk hnc (k : Int) rfl
  have h3 := hts _ _ h1
  have hl3 : (l.drop k).length = n - k := by rw [List.length_drop]; omega
  generalize l.drop k = hv at *
  have t1 := dec_f (show ¬ (k : Int) < 0 by omega)
  have t2 := dec_f (show ¬ (n : Int) < (k : Int) by omega)
  clear h1 hts hl1
  have HR := Lib.hid (rfl : mrgB hv add k = mrgB hv add k)
  generalize hr : mrgB hv add k = r at *
  have h0 : mrgB (hv.drop 0) (add.drop 0) (k + 0) = r := hr
  clear hr HR
  go_enter Try.func28, Try.ntmps28
  go_wp2
  clear t1 t2 hsl
  go_loopw [24] (fun i wr => ∃ j : Nat, i = .int .i64 j ∧ j ≤ m ∧ j ≤ n - k ∧ Hid (mrgB (hv.drop j) (add.drop j) (k + j) = r) ∧ Ext w wr) (fun i _ => m - (intOf i).toNat)
  case atStart => exact ⟨0, rfl, by omega, by omega, Lib.hid h0, Ext.refl w⟩
  case round =>
    obtain ⟨j, rfl, hjm, hjn, Hr, hx⟩ := hrel
    clear h0
    by_cases hlt : j < m
    · obtain ⟨b, off, hA', c0, c1'⟩ := (h2.ext hx).at_ hlt
      subst hA'
      have hja : j < add.length := by omega
      obtain ⟨A2, c2, hc2, hsl2, hts2⟩ := cut_ents entsT (some ⟨b, off, none⟩) hjm hmc (j : Int) rfl
      by_cases hge : n - k ≤ j
      · have hje : j = n - k := by omega
        have hr2 : r = (0, add.drop j) := by
          rw [← Hr.out, List.drop_eq_nil_of_le (by omega)]
          exact mrgB_end _ _ (by rw [Ne, List.drop_eq_nil_iff]; omega)
        have hrl : r.2.length = m - j := by rw [hr2]; simp; omega
        have H2 := Lib.hid hr2
        have HL := Lib.hid hrl
        have HC := Lib.hid (fun (W : World) (h : Ext w W) => ents_Clone A2 (m - j) c2 (add.drop j) W (hts2 _ _ (h2.ext h)) (by omega))
        have t3 := dec_t (show n ≤ j + k by omega)
        clear hr2 hrl hje hge hts2
        generalize add[j] = y at *
        obtain ⟨yt, yA, yl, yc, yb⟩ := y
        dsimp only at c0 c1'
        go_wp2_with fail
        refine (HC.out _ (hx.alloc _)).mono ?_
        rintro e w1 ⟨v1, rfl, hown, x1⟩
        have hsz := (hx.alloc (.cells #[.int .i64 yt, .slice yA yl yc] 36)).size
        go_wp2
        go_ret2
        exact ⟨v1, by rw [H2.out]; rfl, own_to hown hsz (by rw [HL.out]) (by rw [H2.out]), (hx.alloc _).trans x1⟩
      · have hjh : j < hv.length := by omega
        obtain ⟨b3, off3, hA3, d0, d1⟩ := (h3.ext hx).at_ (show j < n - k by omega)
        have hr3 := mrgB_at hv add (k + j) j hjh hja
        rw [Hr.out] at hr3
        have t3 := dec_f (show ¬ n ≤ j + k by omega)
        subst hA3
        have q1 : (j : Int) < ((n - k : Nat) : Int) := by omega
        have q0 : (0 : Int) ≤ (j : Int) := by omega
        have hjk : j < n - k := by omega
        generalize hv[j] = z at *
        generalize add[j] = y at *
        obtain ⟨yt, yA, yl, yc, yb⟩ := y
        obtain ⟨zt, zA, zl, zc, zb⟩ := z
        dsimp only at c0 c1' d0 d1 hr3
        by_cases he : zt = yt
        · rw [if_pos he] at hr3
          have HR3 := Lib.hid hr3
          have e0 := ((Ext.refl wr).alloc (.cells #[.int .i64 yt, .slice yA yl yc] 36)).cell d0
          have e1 := (Blk.new wr 36 [.int .i64 yt, .slice yA yl yc]).cell 0
          simp only [List.getElem?_cons_zero] at e1
          have t4 := bne_f he
          clear hr3 hge hl2 hl3 hjh hja hsl2 hts2 d1
          go_wp2_with fail
          go_quiet (fail)
          go_wp2_with fail
          go_roundw
          case rel => exact ⟨j + 1, val_int (by omega), by omega, by omega, Lib.hid (by rw [HR3.out]; rfl), (hx.alloc (.cells #[.int .i64 yt, .slice yA yl yc] 36)).drewN _⟩
          case measure => simp [intOf]; omega
        · rw [if_neg he] at hr3
          have hrl : r.2.length = m - j := by rw [hr3]; simp; omega
          have HR3 := Lib.hid hr3
          have HL := Lib.hid hrl
          have HC := Lib.hid (fun (W : World) (h : Ext w W) => ents_Clone A2 (m - j) c2 (add.drop j) W (hts2 _ _ (h2.ext h)) (by omega))
          have e0 := ((Ext.refl wr).alloc (.cells #[.int .i64 yt, .slice yA yl yc] 36)).cell d0
          have e1 := (Blk.new wr 36 [.int .i64 yt, .slice yA yl yc]).cell 0
          simp only [List.getElem?_cons_zero] at e1
          have t4 := bne_t he
          have w1 : IntKind.i64.wrap ((k : Int) + j) = ((k + j : Nat) : Int) := by rw [IntWalk.i64_in _ (by omega)]; omega
          have w2 : IntKind.i64.wrap (((k + j : Nat) : Int) + 1) = ((k + j + 1 : Nat) : Int) := by rw [IntWalk.i64_in _ (by omega)]; omega
          clear hr3 hge hl2 hl3 hjh hja hts2 he hrl d1
          go_wp2_with fail
          go_quiet (fail)
          go_wp2_with fail
          refine (HC.out _ ((hx.alloc (.cells #[.int .i64 yt, .slice yA yl yc] 36)).drewN _)).mono ?_
          rintro e w1 ⟨v1, rfl, hown, x1⟩
          have hy := (hx.alloc (.cells #[.int .i64 yt, .slice yA yl yc] 36))
          go_wp2
          go_ret2
          exact ⟨v1, by rw [HR3.out]; rfl, own_to hown hy.size (by rw [HL.out]) (by rw [HR3.out]), (hy.drewN _).trans x1⟩
    · have hjm2 : j = m := by omega
      have hr4 : r = (0, []) := by rw [← Hr.out, List.drop_eq_nil_of_le (show add.length ≤ j by omega)]; exact mrgB_nil _ _
      have H4 := Lib.hid hr4
      clear hr4 Hr hl2 hl3 hlt
      subst hjm2
      go_wp2
      go_ret2
      exact ⟨_, by rw [H4.out]; rfl, by rw [H4.out]; exact World.ownsRow_nil _ _ _ _, hx⟩
end Go.Proofs.Ytcdnjhcddbkciaa
