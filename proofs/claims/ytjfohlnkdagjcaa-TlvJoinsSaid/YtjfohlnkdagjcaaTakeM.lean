/- The walk of the closure in tlv.Take. -/
import Derived.Test.YtjfohlnkdagjcaaTlvM
import Derived.Test.YtjfohlnkdagjcaaSplit
import Derived.Test.YtjfohlnkdagjcaaRec
namespace Go.Proofs.Ytjfohlnkdagjcaa
open Go.RowKit

set_option maxRecDepth 100000 in
set_option maxHeartbeats 800000 in
theorem tlv_take_may0 (f : FV) (B : Nat) (A : Option Addr) (c : Nat) (w : World) (hc : w.cell? ⟨B, 0, none⟩ = some (.slice A 0 c)) :
    Calls Try.prog 56 #[f.val, .pointer (some ⟨B, 0, none⟩)] w fun e w' => e = .returned (.bool true) ∧ Ext w w' := by
  obtain ⟨num, wire, fn, fA, flen, fcap, fb⟩ := f
  unfold FV.val
  dsimp only
  have hlt := World.block_lt_of_cell? _ _ hc
  have hcc := ((Ext.refl w).alloc (.cells #[.int .i64 num, .int .i64 wire, .int .u64 fn, .slice fA flen fcap] 42)).cell hc
  clear hc
  go_enter Try.func56, Try.ntmps56
  go_wp2_with fail
  go_region
  go_wp2
  go_ret
  exact ⟨rfl, ((Ext.refl w).alloc _).drew⟩

set_option maxRecDepth 100000 in
set_option maxHeartbeats 800000 in
theorem tlv_take_may1 (f : FV) (B : Nat) (A : Option Addr) (n i c : Nat) (ms : List FV) (g : FV) (w : World) (hc : w.cell? ⟨B, 0, none⟩ = some (.slice A n c)) (hf : Fs w A n ms) (hn : n = i + 1) (hi : i < 100000) (hg : ms[i]? = some g) :
    Calls Try.prog 56 #[f.val, .pointer (some ⟨B, 0, none⟩)] w fun e w' => e = .returned (.bool (risesB g f)) ∧ Ext w w' := by
  have HR := Lib.hid (fun w => tlv_rises g f w)
  obtain ⟨b, off, rfl, d0, d1, d2, d3⟩ := hf.at_ (show i < n by omega)
  have hgi : ms[i]'(by rw [hf.len]; omega) = g := by
    have := List.getElem?_eq_getElem (l := ms) (i := i) (by rw [hf.len]; omega)
    rw [this] at hg; exact Option.some.inj hg
  simp only [hgi] at d0 d1 d2 d3
  clear hgi hg hf
  generalize risesB g f = rr at HR
  obtain ⟨num, wire, fn, fA, flen, fcap, fb⟩ := f
  obtain ⟨gnum, gwire, gn, gA, glen, gcap, gb⟩ := g
  unfold FV.val at HR ⊢
  dsimp only at HR ⊢ d0 d1 d2 d3
  have hlt := World.block_lt_of_cell? _ _ hc
  have xa : Ext w (w.alloc (.cells #[.int .i64 num, .int .i64 wire, .int .u64 fn, .slice fA flen fcap] 42)) := (Ext.refl w).alloc _
  have hB := Blk.new w 42 [.int .i64 num, .int .i64 wire, .int .u64 fn, .slice fA flen fcap]
  have hcc := xa.cell hc
  have p0 := xa.cell d0
  have p1 := xa.cell d1
  have p2 := xa.cell d2
  have p3 := xa.cell d3
  have e0 := hB.cell 0
  have e1 := hB.cell 1
  have e2 := hB.cell 2
  have e3 := hB.cell 3
  simp only [List.getElem?_cons_zero, List.getElem?_cons_succ] at e0 e1 e2 e3
  subst hn
  have hw1 : IntKind.i64.wrap (i : Int) = i := IntWalk.i64_in _ (by omega)
  have hw2 : IntKind.i64.wrap ((i : Int) + 1) = (i : Int) + 1 := IntWalk.i64_in _ (by omega)
  have hne : ((i : Int) + 1 == 0) = false := by simp; omega
  have hne' : ¬ ((i : Int) + 1 = 0) := by omega
  have hii : (i : Int) < (i : Int) + 1 := by omega
  have hi0 : (0 : Int) ≤ i := by omega
  clear hc d0 d1 d2 d3 hB
  go_enter Try.func56, Try.ntmps56
  go_wp2_with fail
  go_region_held3 (fun w' => w'.cell? ⟨B, 0, none⟩ = some (.slice (some ⟨b, off, none⟩) (i + 1) c) ∧ w'.cell? ⟨b, off + i * 4, none⟩ = some (.int .i64 gnum) ∧ w'.cell? ⟨b, off + i * 4 + 1, none⟩ = some (.int .i64 gwire) ∧ w'.cell? ⟨b, off + i * 4 + 2, none⟩ = some (.int .u64 gn) ∧ w'.cell? ⟨b, off + i * 4 + 3, none⟩ = some (.slice gA glen gcap) ∧
      w'.cell? ⟨w.heap.size, 0, none⟩ = some (.int .i64 num) ∧ w'.cell? ⟨w.heap.size, 1, none⟩ = some (.int .i64 wire) ∧ w'.cell? ⟨w.heap.size, 2, none⟩ = some (.int .u64 fn) ∧ w'.cell? ⟨w.heap.size, 3, none⟩ = some (.slice fA flen fcap))
    (first
      | go_keep
      | (exact ⟨y2.cell hcc, y2.cell p0, y2.cell p1, y2.cell p2, y2.cell p3, y2.cell e0, y2.cell e1, y2.cell e2, y2.cell e3⟩))
    (first
      | (go_at_call 53; refine (HR.out _).mono ?_; rintro e w2 ⟨rfl, y2⟩))
  go_wp2
  go_ret
  exact ⟨rfl, xa.drew.trans y2⟩
end Go.Proofs.Ytjfohlnkdagjcaa
