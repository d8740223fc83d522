/- The walks of Same of layer 18's reference, at rows that are alike. -/
import Derived.Test.YtcdnjhcddbkciaaElE
namespace Go.Proofs.Ytcdnjhcddbkciaa
open Go.RowKit

theorem str_at2 {w : World} {A : Option Addr} {n : Nat} {l : List UInt8} (hb : Bs w A n l) (c : Nat) : (convert 34 9 (.slice A n c)).run Try.prog w = .ok (.string (bstr l)) w :=
  run_str Try.underlying34 Try.underlying5 Try.underlying9 hb c

set_option maxRecDepth 100000 in
set_option maxHeartbeats 800000 in
theorem ref15_SameRecord (kind a b : Int) (A A' : Option Addr) (n c c' : Nat) (x : List UInt8) (w : World) (h1 : Bs w A n x) (h2 : Bs w A' n x) :
    Calls Try.prog 66 #[.agg #[.int .i64 kind, .int .i64 a, .int .i64 b, .slice A n c], .agg #[.int .i64 kind, .int .i64 a, .int .i64 b, .slice A' n c']] w fun e w' => e = .returned (.bool true) ∧ Ext w w' := by
  have s1 := str_at2 (h1.ext (((Ext.refl w).alloc (.cells #[.int .i64 kind, .int .i64 a, .int .i64 b, .slice A n c] 70)).alloc (.cells #[.int .i64 kind, .int .i64 a, .int .i64 b, .slice A' n c'] 70))) c
  have s2 := str_at2 (h2.ext (((Ext.refl w).alloc (.cells #[.int .i64 kind, .int .i64 a, .int .i64 b, .slice A n c] 70)).alloc (.cells #[.int .i64 kind, .int .i64 a, .int .i64 b, .slice A' n c'] 70))) c'
  clear h1 h2
  go_enter Try.func66, Try.ntmps66
  go_wp2
  go_ret
  exact ⟨rfl, ((Ext.refl w).alloc _).alloc _⟩

set_option maxRecDepth 100000 in
set_option maxHeartbeats 1600000 in
theorem ref18_Same (A A' : Option Addr) (n c c' : Nat) (l : List RV) (w : World) (h1 : Rs w A n l) (h2 : Rs w A' n l) (hn : n ≤ 1000) :
    Calls Try.prog 45 #[.slice A n c, .slice A' n c'] w fun e w' => e = .returned (.bool true) ∧ Ext w w' := by
  have hlen := h1.len
  go_enter Try.func45, Try.ntmps45
  go_wp2
  go_loopw [5] (fun i wr => ∃ j : Nat, i = .int .i64 j ∧ j ≤ n ∧ Ext w wr) (fun i _ => n - (intOf i).toNat)
  case atStart => exact ⟨0, rfl, by omega, Ext.refl w⟩
  case round =>
    obtain ⟨j, rfl, hj, hx⟩ := hrel
    by_cases hjn : j < n
    · have k1 := h1.ext hx
      have k2 := h2.ext hx
      obtain ⟨b, off, rfl, c0, c1, c2, c3⟩ := k1.at_ hjn
      obtain ⟨b', off', rfl, d0, d1, d2, d3⟩ := k2.at_ hjn
      have hb := (k1.ok l[j] (List.getElem_mem _)).bs
      have hz := World.block_lt_of_cell? _ _ c0
      generalize l[j] = f at *
      have HS := Lib.hid (fun (w' : World) (h : Ext wr w') => ref15_SameRecord f.kind f.a f.b f.A f.A f.len f.cap f.cap f.x w' (hb.ext h) (hb.ext h))
      have hj0 : (0 : Int) ≤ j := by omega
      have hj1 : (j : Int) < n := by omega
      clear hb k1 k2 hlen
      go_wp2
      go_region_held3 (fun w' => w'.cell? ⟨b, off + j * 4, none⟩ = some (.int .i64 f.kind) ∧ w'.cell? ⟨b, off + j * 4 + 1, none⟩ = some (.int .i64 f.a) ∧ w'.cell? ⟨b, off + j * 4 + 2, none⟩ = some (.int .i64 f.b) ∧ w'.cell? ⟨b, off + j * 4 + 3, none⟩ = some (.slice f.A f.len f.cap) ∧ w'.cell? ⟨b', off' + j * 4, none⟩ = some (.int .i64 f.kind) ∧ w'.cell? ⟨b', off' + j * 4 + 1, none⟩ = some (.int .i64 f.a) ∧ w'.cell? ⟨b', off' + j * 4 + 2, none⟩ = some (.int .i64 f.b) ∧ w'.cell? ⟨b', off' + j * 4 + 3, none⟩ = some (.slice f.A f.len f.cap))
        (first | go_keep | (exact ⟨x2.cell c0, x2.cell c1, x2.cell c2, x2.cell c3, x2.cell d0, x2.cell d1, x2.cell d2, x2.cell d3⟩))
        ((go_at_call 66; refine (HS.out _ ((Ext.refl wr).drew)).mono ?_; rintro e w2 ⟨rfl, x2⟩))
      go_wp2
      go_roundw
      case rel => exact ⟨j + 1, val_int (by omega), by omega, (hx.drew).trans x2⟩
      case measure => simp [intOf]; omega
    · obtain rfl : j = n := by omega
      go_wp2
      go_ret
      exact ⟨rfl, hx⟩
end Go.Proofs.Ytcdnjhcddbkciaa
