/- The walks of the laws of layer 2: their small helpers, and TagAll. -/
import Derived.Test.YtjfohlnkdagjcaaTagU
namespace Go.Proofs.Ytjfohlnkdagjcaa
open Go.RowKit

theorem str_at {w : World} {A : Option Addr} {n : Nat} {l : List UInt8} (hb : Bs w A n l) (c : Nat) : (convert 22 9 (.slice A n c)).run Try.prog w = .ok (.string (bstr l)) w :=
  run_str Try.underlying22 Try.underlying5 Try.underlying9 hb c

/-- a literal of bytes -/
theorem bs_lit (w : World) (cs : Array Value) (l : List UInt8) (n : Nat) (h : cs.toList = l.map bv) (hn : l.length = n) : Bs (w.alloc (.cells cs 5)) (some ⟨w.heap.size, 0, none⟩) n l := by
  have := Rd.block (size := 1) w cs 5 n (by rw [← Array.length_toList, h]; simp [hn])
  rw [h] at this; exact this

/-- a tag's bytes and error, for any two numbers -/
def tput (num wire : Int) : List UInt8 := if 1 ≤ num ∧ num ≤ 1000 ∧ (wire = 0 ∨ wire = 2) then vput (8 * num.toNat + wire.toNat) else []
def terr (num wire : Int) : Int := if 1 ≤ num ∧ num ≤ 1000 ∧ (wire = 0 ∨ wire = 2) then 0 else 1

theorem tag_Put (num wire : Int) (w : World) :
    Calls Try.prog 20 #[.int .i64 num, .int .i64 wire] w fun e w' => ∃ A n c, e = .returned (.tuple #[.slice A n c, .int .i64 (terr num wire)]) ∧ Bs w' A n (tput num wire) ∧ Ext w w' := by
  by_cases h : 1 ≤ num ∧ num ≤ 1000 ∧ (wire = 0 ∨ wire = 2)
  · have ht : TagMay num.toNat wire.toNat := by unfold TagMay; omega
    have := tag_Put_ok num.toNat wire.toNat ht w
    rw [show ((num.toNat : Nat) : Int) = num by omega, show ((wire.toNat : Nat) : Int) = wire by omega] at this
    refine this.mono ?_
    rintro e w' ⟨v, rfl, hown, hx⟩
    obtain ⟨A, c, rfl, _⟩ := own_form hown
    refine ⟨A, _, c, by rw [terr, if_pos h], ?_, hx⟩
    rw [tput, if_pos h]
    exact Bs.of_own hown
  · refine (tag_Put_no num wire h w).mono ?_
    rintro e w' ⟨rfl, rfl⟩
    refine ⟨none, 0, 0, by rw [terr, if_neg h], ?_, Ext.refl _⟩
    rw [tput, if_neg h]
    exact Bs.nil_ _ _

theorem ref02_Put (num wire : Int) (w : World) :
    Calls Try.prog 21 #[.int .i64 num, .int .i64 wire] w fun e w' => ∃ A n c, e = .returned (.tuple #[.slice A n c, .int .i64 (terr num wire)]) ∧ Bs w' A n (tput num wire) ∧ Ext w w' := by
  by_cases h : 1 ≤ num ∧ num ≤ 1000 ∧ (wire = 0 ∨ wire = 2)
  · have ht : TagMay num.toNat wire.toNat := by unfold TagMay; omega
    have := ref02_Put_ok num.toNat wire.toNat ht w
    rw [show ((num.toNat : Nat) : Int) = num by omega, show ((wire.toNat : Nat) : Int) = wire by omega] at this
    refine this.mono ?_
    rintro e w' ⟨v, rfl, hown, hx⟩
    obtain ⟨A, c, rfl, _⟩ := own_form hown
    refine ⟨A, _, c, by rw [terr, if_pos h], ?_, hx⟩
    rw [tput, if_pos h]
    exact Bs.of_own hown
  · refine (ref02_Put_no num wire h w).mono ?_
    rintro e w' ⟨rfl, rfl⟩
    refine ⟨none, 0, 0, by rw [terr, if_neg h], ?_, Ext.refl _⟩
    rw [tput, if_neg h]
    exact Bs.nil_ _ _

set_option maxRecDepth 100000 in
set_option maxHeartbeats 400000 in
theorem law02_shown (w : World) : Calls Try.prog 18 #[] w fun e w' => e = .returned (.bool true) ∧ Ext w w' := by
  go_enter Try.func18, Try.ntmps18
  go_wp2_with fail
  refine (tag_Put 1 2 _).mono ?_
  rintro e w1 ⟨A, n, c, rfl, hb, hx⟩
  rw [show terr 1 2 = 0 by decide]
  rw [show tput 1 2 = [10] by rw [tput, if_pos (by decide)]; rw [vput_small (by decide)]; rfl] at hb
  have hb2 := bs_lit w1 #[.int .u8 10, .int .u8 2, .int .u8 7, .int .u8 7, .int .u8 9] [10, 2, 7, 7, 9] 5 rfl rfl
  have ct := tag_Skip _ 5 5 _ _ hb2 (by omega) (by omega)
  rw [show tskip [10, 2, 7, 7, 9] = (4, 0) by decide] at ct
  simp only [sq] at ct
  have HC := Lib.hid ct; clear ct
  go_wp2_with fail
  refine HC.out.mono ?_
  rintro e w2 ⟨rfl, hx2⟩
  have hs1 := str_at ((hb.alloc _).ext hx2) c
  have hs2 := str_at (bs_lit w2 #[.int .u8 10] [10] 1 rfl rfl) 1
  go_wp2
  go_ret
  exact ⟨rfl, ((hx.alloc _).trans hx2).alloc _⟩

set_option maxRecDepth 100000 in
set_option maxHeartbeats 400000 in
theorem law02_short (A : Option Addr) (n c : Nat) (w : World) (hnc : n ≤ c) (hc : c ≤ maxLen) : Calls Try.prog 19 #[.slice A n c] w fun e w' => e = .returned (.slice A (min n 20000) c) ∧ w = w' := by
  unfold maxLen at hc
  by_cases h : 20000 < n
  · rw [show min n 20000 = 20000 by omega]
    go_enter Try.func19, Try.ntmps19
    go_wp2
    go_ret
    exact ⟨rfl, rfl⟩
  · rw [show min n 20000 = n by omega]
    go_enter Try.func19, Try.ntmps19
    go_wp2
    go_ret
    exact ⟨rfl, rfl⟩

set_option maxRecDepth 100000 in
set_option maxHeartbeats 800000 in
theorem law_TagAll (num wire : Int) (A : Option Addr) (n c : Nat) (l : List UInt8) (w : World) (hb : Bs w A n l) (hnc : n ≤ c) (hc : c ≤ maxLen) :
    Calls Try.prog 3 #[.int .i64 num, .int .i64 wire, .slice A n c] w fun e w' => e = .returned (.bool true) ∧ Ext w w' := by
  have hb0 := hb.upto (hi := min n 20000) (by omega)
  have hm1 : min n 20000 ≤ 1000000 := by omega
  have hm2 : min n 20000 ≤ c := by omega
  have HSh := Lib.hid (fun w => law02_short A n c w hnc hc)
  generalize l.take (min n 20000) = L at *
  clear hb
  generalize min n 20000 = N at *
  generalize hE : terr num wire = E
  have HE := Lib.hid hE; clear hE
  clear hc hnc
  go_enter Try.func3, Try.ntmps3
  go_wp2_with fail
  refine (law02_shown _).mono ?_
  rintro e w1 ⟨rfl, x1⟩
  have hb1 := hb0.ext x1
  clear hb0
  go_wp2_with fail
  refine (HSh.out _).mono ?_
  rintro e w1' ⟨rfl, rfl⟩
  go_wp2_with fail
  refine (tag_Put num wire _).mono ?_
  rw [HE.out]
  rintro e w2 ⟨A2, n2, c2, rfl, b2, x2⟩
  have hb2 := hb1.ext x2
  clear hb1
  go_wp2_with fail
  refine (ref02_Put num wire _).mono ?_
  rw [HE.out]
  rintro e w3 ⟨A3, n3, c3, rfl, b3, x3⟩
  have hb3 := hb2.ext x3
  clear hb2
  generalize tput num wire = T at *
  go_wp2_with fail
  refine (tag_Take A N c L _ hb3 hm1).mono ?_
  generalize hq : ttake L = q
  obtain ⟨q1, q2, q3, q4⟩ := q
  unfold tq
  rintro e w3' ⟨rfl, rfl⟩
  have Hq := Lib.hid hq; clear hq
  go_wp2_with fail
  refine (ref02_Take A N c L _ hb3 hm1 hm2).mono ?_
  rw [Hq.out]
  unfold tq
  rintro e w4 ⟨rfl, x4⟩
  have hb4 := hb3.ext x4
  clear hb3 Hq
  go_wp2_with fail
  refine (tag_Skip A N c L _ hb4 hm1 hm2).mono ?_
  generalize hr : tskip L = r
  obtain ⟨r1, r2⟩ := r
  unfold sq
  rintro e w5 ⟨rfl, x5⟩
  have hb5 := hb4.ext x5
  clear hb4
  have Hr := Lib.hid hr; clear hr
  go_wp2_with fail
  refine (ref02_Skip A N c L _ hb5 hm1 hm2).mono ?_
  rw [Hr.out]
  unfold sq
  rintro e w6 ⟨rfl, x6⟩
  have hs1 := str_at ((((b2.ext x3).ext x4).ext x5).ext x6) c2
  have hs2 := str_at (((b3.ext x4).ext x5).ext x6) c3
  have hx : Ext w w6 := ((((x1.trans x2).trans x3).trans x4).trans x5).trans x6
  clear x1 x2 x3 x4 x5 x6 hb5 Hr b2 b3
  go_wp2
  go_ret
  exact ⟨rfl, hx⟩
end Go.Proofs.Ytjfohlnkdagjcaa
