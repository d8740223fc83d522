/- What the laws of layer 7 begin with. -/
import Derived.Test.YtiildgoaiookhaaStH
namespace Go.Proofs.Ytiildgoaiookhaa
open Go.RowKit

theorem lessK_few (s : KV) (A : Option Addr) (c : Nat) : (lessK s A c).Few :=
  ⟨by dsimp only [lessK]; omega, by dsimp only [lessK]; omega, by dsimp only [lessK]; omega, fun f hf => by
    obtain ⟨g, _, rfl⟩ := List.mem_map.1 hf
    have := cutN_len g; omega⟩
/-- a world in which a block of seven cells was stored anew -/
def put7 (w : World) (g : Nat) (a b c d e f v : Value) : World := ((((((w.setCell ⟨g, 0, none⟩ a).setCell ⟨g, 1, none⟩ b).setCell ⟨g, 2, none⟩ c).setCell ⟨g, 3, none⟩ d).setCell ⟨g, 4, none⟩ e).setCell ⟨g, 5, none⟩ f).setCell ⟨g, 6, none⟩ v
theorem Blk.st7 {w : World} {g : Nat} {t : TypeId} {a' b' c' d' e' f' v' : Value} (h : Blk w g t [a', b', c', d', e', f', v']) (a b c d e f v : Value) : Blk (put7 w g a b c d e f v) g t [a, b, c, d, e, f, v] := by
  have := ((((((h.set_ 0 a).set_ 1 b).set_ 2 c).set_ 3 d).set_ 4 e).set_ 5 f).set_ 6 v
  unfold put7
  simpa using this
theorem Ext.st7 {w0 w : World} {g : Nat} (h : Ext w0 w) (hg : w0.heap.size ≤ g) (a b c d e f v : Value) : Ext w0 (put7 w g a b c d e f v) :=
  ((((((h.setCell (p := ⟨g, 0, none⟩) hg a).setCell (p := ⟨g, 1, none⟩) hg b).setCell (p := ⟨g, 2, none⟩) hg c).setCell (p := ⟨g, 3, none⟩) hg d).setCell (p := ⟨g, 4, none⟩) hg e).setCell (p := ⟨g, 5, none⟩) hg f).setCell (p := ⟨g, 6, none⟩) hg v
theorem own_st7 {w : World} {base : Nat} {t : TypeId} {size n : Nat} {u : Value} {xs : List Value} (h : w.ownsRow base t size u n xs) {g : Nat} (hg : g < base) (a b c d e f v : Value) : (put7 w g a b c d e f v).ownsRow base t size u n xs :=
  own_set (own_set (own_set (own_set (own_set (own_set (own_set h (p := ⟨g, 0, none⟩) hg a) (p := ⟨g, 1, none⟩) hg b) (p := ⟨g, 2, none⟩) hg c) (p := ⟨g, 3, none⟩) hg d) (p := ⟨g, 4, none⟩) hg e) (p := ⟨g, 5, none⟩) hg f) (p := ⟨g, 6, none⟩) hg v
theorem st7_def (w : World) (g : Nat) (a b c d e f v : Value) : ((((((w.setCell ⟨g, 0, none⟩ a).setCell ⟨g, 1, none⟩ b).setCell ⟨g, 2, none⟩ c).setCell ⟨g, 3, none⟩ d).setCell ⟨g, 4, none⟩ e).setCell ⟨g, 5, none⟩ f).setCell ⟨g, 6, none⟩ v = put7 w g a b c d e f v := rfl
end Go.Proofs.Ytiildgoaiookhaa
