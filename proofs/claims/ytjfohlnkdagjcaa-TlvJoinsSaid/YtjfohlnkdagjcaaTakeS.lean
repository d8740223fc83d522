/- The walk of coracleref03.Same at rows that are the same. -/
import Derived.Test.YtjfohlnkdagjcaaTakeW
namespace Go.Proofs.Ytjfohlnkdagjcaa
open Go.RowKit

set_option maxRecDepth 100000 in
set_option maxHeartbeats 800000 in
theorem ref03_Same (A A' : Option Addr) (n c c' : Nat) (l m : List FV) (w : World) (h1 : Fs w A n l) (h2 : Fs w A' n m) (hs : l.map FV.s = m.map FV.s) (hn : n ≤ 20000) :
    Calls Try.prog 34 #[.slice A n c, .slice A' n c'] w fun e w' => e = .returned (.bool true) ∧ Ext w w' := by
  have hlen := h1.len
  have hlen2 := h2.len
  have HS := Lib.hid hs; clear hs
  go_enter Try.func34, Try.ntmps34
  go_wp2
  go_loopw [5] (fun i wr => ∃ j : Nat, i = .int .i64 j ∧ j ≤ n ∧ Ext w wr) (fun i _ => n - (intOf i).toNat)
  case atStart => exact ⟨0, rfl, by omega, Ext.refl w⟩
  case round =>
    obtain ⟨j, rfl, hj, hx⟩ := hrel
    by_cases hjn : j < n
    · obtain ⟨b, off, rfl, c0, c1, c2, c3⟩ := (h1.ext hx).at_ hjn
      obtain ⟨b', off', rfl, d0, d1, d2, d3⟩ := (h2.ext hx).at_ hjn
      have k1 := (h1.ext hx).ok (l[j]'(by omega)) (List.getElem_mem _)
      have k2 := (h2.ext hx).ok (m[j]'(by omega)) (List.getElem_mem _)
      have hfg : (l[j]'(by omega)).s = (m[j]'(by omega)).s := by
        have := congrArg (fun x => x[j]?) HS.out
        simpa [show j < l.length by omega, show j < m.length by omega] using this
      generalize l[j]'(by omega) = f at *
      generalize m[j]'(by omega) = g at *
      obtain ⟨num, wire, fn, fA, flen, fcap, fb⟩ := f
      obtain ⟨gnum, gwire, gn, gA, glen, gcap, gb⟩ := g
      simp only [FV.s, Prod.mk.injEq] at hfg
      obtain ⟨rfl, rfl, rfl, rfl, rfl⟩ := hfg
      have b1 := k1.bs
      have b2 := k2.bs
      dsimp only at b1 b2 c0 c1 c2 c3 d0 d1 d2 d3
      have hsA := fun k => str_at (b1.drewN k) fcap
      have hsB := fun k => str_at (b2.drewN k) gcap
      have hj0 : (0 : Int) ≤ j := by omega
      have hj1 : (j : Int) < n := by omega
      clear h1 h2 hlen hlen2 k1 k2 b1 b2
      go_wp2
      go_quiet (fail)
      go_wp2
      go_roundw
      case rel => exact ⟨j + 1, val_int (by omega), by omega, hx.drewN _⟩
      case measure => simp [intOf]; omega
    · obtain rfl : j = n := by omega
      go_wp2
      go_ret
      exact ⟨rfl, hx⟩
end Go.Proofs.Ytjfohlnkdagjcaa
