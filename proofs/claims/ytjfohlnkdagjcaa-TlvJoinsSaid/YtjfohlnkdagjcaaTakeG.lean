/- tlv.field at the bytes of any field. -/
import Derived.Test.YtjfohlnkdagjcaaTakeF
import Derived.Test.YtjfohlnkdagjcaaTakeP
namespace Go.Proofs.Ytjfohlnkdagjcaa
open Go.RowKit

theorem tlv_field (A : Option Addr) (m c : Nat) (num wire n : Nat) (b : List UInt8) (w : World) (hb : Bs w A m (fput num wire n b)) (hm : m ≤ 100000) (hmc : m ≤ c) (ht : TagMay num wire) (hn : U64 n) (hl : b.length ≤ 16384) (h0 : wire = 0 → b = []) (h2 : wire = 2 → n = 0) :
    Calls Try.prog 57 #[.slice A m c] w fun e w' => ∃ g : FV, e = .returned g.val ∧ OwnF w' w.heap.size g ∧ g.s = (tfv num wire n b).s ∧ Ext w w' := by
  obtain ⟨s, k, e1, e2, e3, e4⟩ := take_fput (b := b) ht hn hl
  have hlen := hb.len
  by_cases hw : wire = 0
  · subst hw
    rw [if_pos rfl] at e2
    refine (tlv_field_n A m c _ num s n k w hb hm hmc (by omega) e1 e2).mono ?_
    rintro e w' ⟨rfl, x⟩
    have hbn := h0 rfl
    subst hbn
    exact ⟨⟨num, 0, n, none, 0, 0, []⟩, rfl, ⟨World.ownsRow_nil _ _ _ _, hn⟩, rfl, x⟩
  · have hw2 : wire = 2 := by rcases ht.2.2 with h | h; exact absurd h hw; exact h
    subst hw2
    rw [if_neg hw] at e2
    obtain ⟨e5, e6⟩ := e4 hw
    refine (tlv_field_b A m c _ num s b.length k w hb hm hmc (by omega) e1 e2).mono ?_
    rintro e w' ⟨v, rfl, ho, x⟩
    rw [e5] at ho
    have hml : m - (s + k) = b.length := by omega
    rw [hml] at ho
    obtain ⟨A', c', rfl, _⟩ := own_form ho
    have hn0 := h2 rfl
    subst hn0
    exact ⟨⟨num, 2, 0, A', b.length, c', b⟩, rfl, ⟨ho, hn⟩, rfl, x⟩
end Go.Proofs.Ytjfohlnkdagjcaa
