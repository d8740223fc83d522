/- Words and walks that the last text of this claim stands on: Chk, FormA, FormB. No condition. -/
import Derived.Test.YtcoaofaofmbfbaaB08
import Derived.Test.YtcoaofaofmbfbaaB05
import Derived.Test.YtcoaofaofmbfbaaProg
import Derived.Test.YtcoaofaofmbfbaaB04
/- Whether fields may be a record's, in plain words. No program in sight. -/
namespace Go.Proofs.Ytcoaofaofmbfbaa
open Go.RowKit

/-- how often a number stands there -/
def cnt (k : Int) (l : List FV) : Nat := (l.filter (fun f => f.num == k)).length
theorem cnt_snoc (k : Int) (l : List FV) (j : Nat) (h : j < l.length) : cnt k (l.take (j + 1)) = cnt k (l.take j) + if l[j].num = k then 1 else 0 := by
  unfold cnt
  rw [List.take_succ_eq_append_getElem h, List.filter_append, List.length_append]
  congr 1
  simp only [List.filter_cons, List.filter_nil]
  by_cases e : l[j].num = k <;> simp [e]
theorem cnt_le (k : Int) (l : List FV) : cnt k l ≤ l.length := List.length_filter_le _ _
theorem cnt_take (k : Int) (l : List FV) (j : Nat) : cnt k (l.take j) ≤ cnt k l := by
  unfold cnt
  exact ((List.take_sublist j l).filter _).length_le
/-- is a field not empty -/
def fullB (f : FV) : Bool := if f.wire = 0 then decide (f.n ≠ 0) else decide (0 < f.len)
/-- is a field, that stands there for the t-th time, as its spec says -/
def isB (f : FV) (s : SpV) (t : Nat) : Bool := (decide (f.wire = (s.wire : Int)) && (decide (t ≤ 1) || s.many)) && fullB f
def oneB (s : SpV) (l : List FV) : Bool := l.all fun f => !(f.num == (s.num : Int)) || (decide (f.wire = (s.wire : Int)) && fullB f)
def specB (s : SpV) (l : List FV) : Bool := oneB s l && ((decide (cnt s.num l ≤ 1) || s.many) && (!s.need || decide (0 < cnt s.num l)))
/-- may fields be those of the specs -/
def okB (S : List SpV) (l : List FV) : Bool := S.all fun s => specB s l
def checkN (S : List SpV) (l : List FV) : Nat := if S = [] then 1 else if fmay l ≠ 0 then fmay l else if okB S l then 0 else 6

theorem okB_false {S : List SpV} {l : List FV} {s : SpV} (hs : s ∈ S) (h : specB s l = false) : okB S l = false := by
  unfold okB
  rw [List.all_eq_false]
  exact ⟨s, hs, by simp [h]⟩
theorem ok_early {S : List SpV} {l : List FV} {s : SpV} (hs : s ∈ S) {j : Nat} (hj : j < l.length) (hn : l[j].num = (s.num : Int)) (h : isB l[j] s (cnt l[j].num (l.take (j + 1))) = false) : okB S l = false := by
  refine okB_false hs ?_
  unfold specB
  by_cases h1 : oneB s l = true
  · rw [h1, Bool.true_and]
    have h2 : decide (l[j].wire = (s.wire : Int)) && fullB l[j] = true := by
      have := List.all_eq_true.1 h1 l[j] (List.getElem_mem _)
      simpa [hn] using this
    simp only [Bool.and_eq_true, decide_eq_true_eq] at h2
    unfold isB at h
    rw [h2.2, decide_eq_true h2.1] at h
    simp only [Bool.true_and, Bool.and_true, Bool.or_eq_false_iff, decide_eq_false_iff_not] at h
    have := cnt_take l[j].num l (j + 1)
    rw [hn] at h this
    have e : decide (cnt (s.num : Int) l ≤ 1) = false := by simp; omega
    rw [e, h.2]; rfl
  · have : oneB s l = false := by simpa using h1
    rw [this, Bool.false_and]
theorem ok_need {S : List SpV} {l : List FV} {s : SpV} (hs : s ∈ S) (hn : s.need = true) (h : cnt s.num l = 0) : okB S l = false := by
  refine okB_false hs ?_
  unfold specB
  rw [hn, h]; simp
theorem last_at' (k : Int) : ∀ (n : Nat) (l : List FV), l.length = n → 0 < cnt k l → ∃ j, ∃ h : j < l.length, l[j].num = k ∧ cnt k (l.take (j + 1)) = cnt k l
  | 0, l, h, hc => by
    have := cnt_le k l
    omega
  | n + 1, l, h, hc => by
    have hsn := cnt_snoc k l n (by omega)
    rw [List.take_of_length_le (show l.length ≤ n + 1 by omega)] at hsn
    by_cases e : (l[n]'(by omega)).num = k
    · exact ⟨n, by omega, e, by rw [List.take_of_length_le (by omega)]⟩
    · rw [if_neg e, Nat.add_zero] at hsn
      obtain ⟨j, hj, h1, h2⟩ := last_at' k n (l.take n) (by rw [List.length_take]; omega) (by omega)
      rw [List.length_take] at hj
      refine ⟨j, by omega, ?_, ?_⟩
      · rw [← h1]; simp
      · rw [hsn, ← h2, List.take_take]; congr 2; omega
theorem last_at (k : Int) (l : List FV) (hc : 0 < cnt k l) : ∃ j, ∃ h : j < l.length, l[j].num = k ∧ cnt k (l.take (j + 1)) = cnt k l := last_at' k _ l rfl hc
theorem ok_all {S : List SpV} {l : List FV} (h1 : ∀ j (hj : j < l.length) q (hq : q < S.length), l[j].num = (S[q].num : Int) → isB l[j] S[q] (cnt l[j].num (l.take (j + 1))) = true)
    (h2 : ∀ q (hq : q < S.length), S[q].need = true → 0 < cnt S[q].num l) : okB S l = true := by
  unfold okB
  rw [List.all_eq_true]
  intro s hs
  obtain ⟨q, hq, rfl⟩ := List.getElem_of_mem hs
  unfold specB
  have e1 : oneB S[q] l = true := by
    unfold oneB
    rw [List.all_eq_true]
    intro f hf
    obtain ⟨j, hj, rfl⟩ := List.getElem_of_mem hf
    by_cases e : l[j].num = (S[q].num : Int)
    · have := h1 j hj q hq e
      unfold isB at this
      simp only [Bool.and_eq_true] at this
      simp [e, this.2, of_decide_eq_true this.1.1]
    · simp [e]
  rw [e1, Bool.true_and]
  have e2 : (decide (cnt S[q].num l ≤ 1) || S[q].many) = true := by
    by_cases c : cnt S[q].num l ≤ 1
    · simp [c]
    · obtain ⟨j, hj, h3, h4⟩ := last_at S[q].num l (by omega)
      have := h1 j hj q hq h3
      unfold isB at this
      rw [h3, h4] at this
      simp only [Bool.and_eq_true, Bool.or_eq_true, decide_eq_true_eq] at this
      simp only [Bool.or_eq_true, decide_eq_true_eq]
      exact this.1.2
  rw [e2, Bool.true_and]
  by_cases c : S[q].need = true
  · simp [h2 q hq c]
  · have : S[q].need = false := by simpa using c
    simp [this]
theorem ok_specs {S : List SpV} {l : List FV} (h : ∀ q (hq : q < S.length), specB S[q] l = true) : okB S l = true := by
  unfold okB
  rw [List.all_eq_true]
  intro s hs
  obtain ⟨q, hq, rfl⟩ := List.getElem_of_mem hs
  exact h q hq
end Go.Proofs.Ytcoaofaofmbfbaa

/- The walk of forms.all: what records may have. -/
namespace Go.Proofs.Ytcoaofaofmbfbaa
open Go.RowKit

set_option maxRecDepth 100000 in
theorem forms_number (num since : Int) (w : World) : Calls Try.prog 103 #[.int .i64 num, .int .i64 since] w fun e w' => e = .returned (.agg #[.int .i64 num, .int .i64 0, .int .i64 since, .bool false, .bool false]) ∧ Ext w w' := by
  go_enter Try.func103, Try.ntmps103
  go_wp2
  refine bodyPost_ret (v := .agg #[.int .i64 num, .int .i64 0, .int .i64 since, .bool false, .bool false]) (by simp [results, Try.results103, go_sem]) rfl ⟨rfl, ?_⟩
  repeat (refine Ext.setCell ?_ (by simp) _)
  exact (Ext.refl w).alloc _

set_option maxRecDepth 100000 in
theorem forms_bytes (num since : Int) (w : World) : Calls Try.prog 104 #[.int .i64 num, .int .i64 since] w fun e w' => e = .returned (.agg #[.int .i64 num, .int .i64 2, .int .i64 since, .bool false, .bool false]) ∧ Ext w w' := by
  go_enter Try.func104, Try.ntmps104
  go_wp2
  refine bodyPost_ret (v := .agg #[.int .i64 num, .int .i64 2, .int .i64 since, .bool false, .bool false]) (by simp [results, Try.results104, go_sem]) rfl ⟨rfl, ?_⟩
  repeat (refine Ext.setCell ?_ (by simp) _)
  exact (Ext.refl w).alloc _

set_option maxRecDepth 100000 in
theorem forms_need (a b c : Int) (d e : Bool) (w : World) : Calls Try.prog 105 #[.agg #[.int .i64 a, .int .i64 b, .int .i64 c, .bool d, .bool e]] w fun r w' => r = .returned (.agg #[.int .i64 a, .int .i64 b, .int .i64 c, .bool true, .bool e]) ∧ Ext w w' := by
  go_enter Try.func105, Try.ntmps105
  go_wp2
  refine bodyPost_ret (v := .agg #[.int .i64 a, .int .i64 b, .int .i64 c, .bool true, .bool e]) (by simp [results, Try.results105, go_sem]) rfl ⟨rfl, ?_⟩
  repeat (refine Ext.setCell ?_ (by simp) _)
  exact ((Ext.refl w).alloc _).alloc _

set_option maxRecDepth 100000 in
theorem forms_many (a b c : Int) (d e : Bool) (w : World) : Calls Try.prog 106 #[.agg #[.int .i64 a, .int .i64 b, .int .i64 c, .bool d, .bool e]] w fun r w' => r = .returned (.agg #[.int .i64 a, .int .i64 b, .int .i64 c, .bool d, .bool true]) ∧ Ext w w' := by
  go_enter Try.func106, Try.ntmps106
  go_wp2
  refine bodyPost_ret (v := .agg #[.int .i64 a, .int .i64 b, .int .i64 c, .bool d, .bool true]) (by simp [results, Try.results106, go_sem]) rfl ⟨rfl, ?_⟩
  repeat (refine Ext.setCell ?_ (by simp) _)
  exact ((Ext.refl w).alloc _).alloc _

set_option maxRecDepth 100000 in
set_option maxHeartbeats 3200000 in
theorem forms_all (kind : Int) (w : World) : Calls Try.prog 93 #[.int .i64 kind] w fun e w' => ∃ v, e = .returned v ∧ w'.ownsRow w.heap.size 108 5 v (formOf kind).length (specOf (formOf kind)) ∧ Ext w w' := by
  have hI := MapIs.made 108 w
  have ZV : Hid (∀ w, (zeroValue 105).run Try.prog w = .ok (.slice none 0 0) w) := Lib.hid (fun w => by kernel_rfl)
  go_enter Try.func93, Try.ntmps93
  simp only [List.append_eq, List.cons_append, List.nil_append]
  go_wp2_with (refine wpList_makeMap (by rfl) (by rfl) ?_; intro ops R hR; have HR := Lib.hid hR; clear hR)
  have hR := HR.out
  clear HR
  subst hR
  refine wpList_hide 20 ?_
  intro ops R hR
  have HR := Lib.hid hR; clear hR
  simp only [List.take_succ_cons, List.take_zero, List.cons_append, List.nil_append]
  go_wp2_with (first
    | (refine wpList_named 103 (by rfl) ?_)
    | (refine wpList_named 104 (by rfl) ?_)
    | (refine wpList_named 105 (by rfl) ?_)
    | (refine wpList_named 106 (by rfl) ?_)
    | (go_at_call 103; refine (forms_number _ _ _).mono ?_; rintro e w9 ⟨rfl, x9⟩; replace hI := hI.call x9; clear x9)
    | (go_at_call 104; refine (forms_bytes _ _ _).mono ?_; rintro e w9 ⟨rfl, x9⟩; replace hI := hI.call x9; clear x9)
    | (go_at_call 105; refine (forms_need _ _ _ _ _ _).mono ?_; rintro e w9 ⟨rfl, x9⟩; replace hI := hI.call x9; clear x9)
    | (go_at_call 106; refine (forms_many _ _ _ _ _ _).mono ?_; rintro e w9 ⟨rfl, x9⟩; replace hI := hI.call x9; clear x9)
    | (refine wpList_insert Try.underlying137 Try.underlying3 hI 1 [nN 1, nS 2 1, nS 3 1, nS 4 1, nS 5 1, nS 6 1, bS 7 1, bS 8 3] _ (by rfl) (by decide) 8 (by rfl) (by rfl) _ _ _ (by rfl) (by rfl) (by rfl) (by rfl) ?_; clear hI; intro w9 hI))
  have hR := HR.out
  clear HR
  simp only [List.drop_succ_cons, List.drop_zero] at hR
  subst hR
  refine wpList_hide 18 ?_
  intro ops R hR
  have HR := Lib.hid hR; clear hR
  simp only [List.take_succ_cons, List.take_zero, List.cons_append, List.nil_append]
  go_wp2_with (first
    | (refine wpList_named 103 (by rfl) ?_)
    | (refine wpList_named 104 (by rfl) ?_)
    | (refine wpList_named 105 (by rfl) ?_)
    | (refine wpList_named 106 (by rfl) ?_)
    | (go_at_call 103; refine (forms_number _ _ _).mono ?_; rintro e w9 ⟨rfl, x9⟩; replace hI := hI.call x9; clear x9)
    | (go_at_call 104; refine (forms_bytes _ _ _).mono ?_; rintro e w9 ⟨rfl, x9⟩; replace hI := hI.call x9; clear x9)
    | (go_at_call 105; refine (forms_need _ _ _ _ _ _).mono ?_; rintro e w9 ⟨rfl, x9⟩; replace hI := hI.call x9; clear x9)
    | (go_at_call 106; refine (forms_many _ _ _ _ _ _).mono ?_; rintro e w9 ⟨rfl, x9⟩; replace hI := hI.call x9; clear x9)
    | (refine wpList_insert Try.underlying137 Try.underlying3 hI 2 [nN 1, nN 2, ⟨3, 2, 1, true, false⟩, nS 4 2, bS 5 3] _ (by rfl) (by decide) 5 (by rfl) (by rfl) _ _ _ (by rfl) (by rfl) (by rfl) (by rfl) ?_; clear hI; intro w9 hI))
  have hR := HR.out
  clear HR
  simp only [List.drop_succ_cons, List.drop_zero] at hR
  subst hR
  refine wpList_hide 10 ?_
  intro ops R hR
  have HR := Lib.hid hR; clear hR
  simp only [List.take_succ_cons, List.take_zero, List.cons_append, List.nil_append]
  go_wp2_with (first
    | (refine wpList_named 103 (by rfl) ?_)
    | (refine wpList_named 104 (by rfl) ?_)
    | (refine wpList_named 105 (by rfl) ?_)
    | (refine wpList_named 106 (by rfl) ?_)
    | (go_at_call 103; refine (forms_number _ _ _).mono ?_; rintro e w9 ⟨rfl, x9⟩; replace hI := hI.call x9; clear x9)
    | (go_at_call 104; refine (forms_bytes _ _ _).mono ?_; rintro e w9 ⟨rfl, x9⟩; replace hI := hI.call x9; clear x9)
    | (go_at_call 105; refine (forms_need _ _ _ _ _ _).mono ?_; rintro e w9 ⟨rfl, x9⟩; replace hI := hI.call x9; clear x9)
    | (go_at_call 106; refine (forms_many _ _ _ _ _ _).mono ?_; rintro e w9 ⟨rfl, x9⟩; replace hI := hI.call x9; clear x9)
    | (refine wpList_insert Try.underlying137 Try.underlying3 hI 3 [nN 1, nN 2] _ (by rfl) (by decide) 2 (by rfl) (by rfl) _ _ _ (by rfl) (by rfl) (by rfl) (by rfl) ?_; clear hI; intro w9 hI))
  have hR := HR.out
  clear HR
  simp only [List.drop_succ_cons, List.drop_zero] at hR
  subst hR
  refine wpList_hide 12 ?_
  intro ops R hR
  have HR := Lib.hid hR; clear hR
  simp only [List.take_succ_cons, List.take_zero, List.cons_append, List.nil_append]
  go_wp2_with (first
    | (refine wpList_named 103 (by rfl) ?_)
    | (refine wpList_named 104 (by rfl) ?_)
    | (refine wpList_named 105 (by rfl) ?_)
    | (refine wpList_named 106 (by rfl) ?_)
    | (go_at_call 103; refine (forms_number _ _ _).mono ?_; rintro e w9 ⟨rfl, x9⟩; replace hI := hI.call x9; clear x9)
    | (go_at_call 104; refine (forms_bytes _ _ _).mono ?_; rintro e w9 ⟨rfl, x9⟩; replace hI := hI.call x9; clear x9)
    | (go_at_call 105; refine (forms_need _ _ _ _ _ _).mono ?_; rintro e w9 ⟨rfl, x9⟩; replace hI := hI.call x9; clear x9)
    | (go_at_call 106; refine (forms_many _ _ _ _ _ _).mono ?_; rintro e w9 ⟨rfl, x9⟩; replace hI := hI.call x9; clear x9)
    | (refine wpList_insert Try.underlying137 Try.underlying3 hI 4 [nN 1, nS 2 1, nS 3 1, nS 4 1] _ (by rfl) (by decide) 4 (by rfl) (by rfl) _ _ _ (by rfl) (by rfl) (by rfl) (by rfl) ?_; clear hI; intro w9 hI))
  have hR := HR.out
  clear HR
  simp only [List.drop_succ_cons, List.drop_zero] at hR
  subst hR
  refine wpList_hide 26 ?_
  intro ops R hR
  have HR := Lib.hid hR; clear hR
  simp only [List.take_succ_cons, List.take_zero, List.cons_append, List.nil_append]
  go_wp2_with (first
    | (refine wpList_named 103 (by rfl) ?_)
    | (refine wpList_named 104 (by rfl) ?_)
    | (refine wpList_named 105 (by rfl) ?_)
    | (refine wpList_named 106 (by rfl) ?_)
    | (go_at_call 103; refine (forms_number _ _ _).mono ?_; rintro e w9 ⟨rfl, x9⟩; replace hI := hI.call x9; clear x9)
    | (go_at_call 104; refine (forms_bytes _ _ _).mono ?_; rintro e w9 ⟨rfl, x9⟩; replace hI := hI.call x9; clear x9)
    | (go_at_call 105; refine (forms_need _ _ _ _ _ _).mono ?_; rintro e w9 ⟨rfl, x9⟩; replace hI := hI.call x9; clear x9)
    | (go_at_call 106; refine (forms_many _ _ _ _ _ _).mono ?_; rintro e w9 ⟨rfl, x9⟩; replace hI := hI.call x9; clear x9)
    | (refine wpList_insert Try.underlying137 Try.underlying3 hI 5 [nN 1, nN 2, nS 3 1, bM 4, bM 5, bM 6, nS 7 3] _ (by rfl) (by decide) 7 (by rfl) (by rfl) _ _ _ (by rfl) (by rfl) (by rfl) (by rfl) ?_; clear hI; intro w9 hI))
  have hR := HR.out
  clear HR
  simp only [List.drop_succ_cons, List.drop_zero] at hR
  subst hR
  refine wpList_hide 32 ?_
  intro ops R hR
  have HR := Lib.hid hR; clear hR
  simp only [List.take_succ_cons, List.take_zero, List.cons_append, List.nil_append]
  go_wp2_with (first
    | (refine wpList_named 103 (by rfl) ?_)
    | (refine wpList_named 104 (by rfl) ?_)
    | (refine wpList_named 105 (by rfl) ?_)
    | (refine wpList_named 106 (by rfl) ?_)
    | (go_at_call 103; refine (forms_number _ _ _).mono ?_; rintro e w9 ⟨rfl, x9⟩; replace hI := hI.call x9; clear x9)
    | (go_at_call 104; refine (forms_bytes _ _ _).mono ?_; rintro e w9 ⟨rfl, x9⟩; replace hI := hI.call x9; clear x9)
    | (go_at_call 105; refine (forms_need _ _ _ _ _ _).mono ?_; rintro e w9 ⟨rfl, x9⟩; replace hI := hI.call x9; clear x9)
    | (go_at_call 106; refine (forms_many _ _ _ _ _ _).mono ?_; rintro e w9 ⟨rfl, x9⟩; replace hI := hI.call x9; clear x9)
    | (refine wpList_insert Try.underlying137 Try.underlying3 hI 6 [nN 1, nN 2, nN 3, nN 4, nS 5 1, nS 6 1, nS 7 1, nS 8 1, nS 9 1, bM 10] _ (by rfl) (by decide) 10 (by rfl) (by rfl) _ _ _ (by rfl) (by rfl) (by rfl) (by rfl) ?_; clear hI; intro w9 hI))
  have hR := HR.out
  clear HR
  simp only [List.drop_succ_cons, List.drop_zero] at hR
  subst hR
  refine wpList_hide 8 ?_
  intro ops R hR
  have HR := Lib.hid hR; clear hR
  simp only [List.take_succ_cons, List.take_zero, List.cons_append, List.nil_append]
  go_wp2_with (first
    | (refine wpList_named 103 (by rfl) ?_)
    | (refine wpList_named 104 (by rfl) ?_)
    | (refine wpList_named 105 (by rfl) ?_)
    | (refine wpList_named 106 (by rfl) ?_)
    | (go_at_call 103; refine (forms_number _ _ _).mono ?_; rintro e w9 ⟨rfl, x9⟩; replace hI := hI.call x9; clear x9)
    | (go_at_call 104; refine (forms_bytes _ _ _).mono ?_; rintro e w9 ⟨rfl, x9⟩; replace hI := hI.call x9; clear x9)
    | (go_at_call 105; refine (forms_need _ _ _ _ _ _).mono ?_; rintro e w9 ⟨rfl, x9⟩; replace hI := hI.call x9; clear x9)
    | (go_at_call 106; refine (forms_many _ _ _ _ _ _).mono ?_; rintro e w9 ⟨rfl, x9⟩; replace hI := hI.call x9; clear x9)
    | (refine wpList_insert Try.underlying137 Try.underlying3 hI 7 [nN 1, bS 2 1] _ (by rfl) (by decide) 2 (by rfl) (by rfl) _ _ _ (by rfl) (by rfl) (by rfl) (by rfl) ?_; clear hI; intro w9 hI))
  have hR := HR.out
  clear HR
  simp only [List.drop_succ_cons, List.drop_zero] at hR
  subst hR
  go_wp2_with (refine wpList_look Try.underlying137 Try.underlying3 ZV.out hI (by decide) kind (by rfl) _ _ (by rfl) (by rfl) (by rfl) ?_; intro v hv)
  go_ret
  exact ⟨v, rfl, hv, hI.ext⟩
end Go.Proofs.Ytcoaofaofmbfbaa

/- The walks of forms.Specs and forms.Top. -/
namespace Go.Proofs.Ytcoaofaofmbfbaa
open Go.RowKit

theorem specT : SliceT Try.prog 105 108 5 32 := .mk' Try.underlying105 (z := .agg #[.int .i64 0, .int .i64 0, .int .i64 0, .bool false, .bool false]) (by kernel_rfl) rfl
theorem scells_one (a b c : Int) (d e : Bool) : ∀ u ∈ [Value.int .i64 a, .int .i64 b, .int .i64 c, .bool d, .bool e], u.oneCell' = true := by
  intro u hu
  simp only [List.mem_cons, List.not_mem_nil, or_false] at hu
  rcases hu with rfl | rfl | rfl | rfl | rfl <;> rfl

theorem filter_snoc {α : Type} (p : α → Bool) (l : List α) (j : Nat) (h : j < l.length) : (l.take (j + 1)).filter p = (l.take j).filter p ++ if p l[j] then [l[j]] else [] := by
  rw [List.take_succ_eq_append_getElem h, List.filter_append]
  congr 1
  simp only [List.filter_cons, List.filter_nil]
theorem topL_snoc (l : List SpV) (j : Nat) (h : j < l.length) : topL (l.take (j + 1)) = max (topL (l.take j)) l[j].num := by
  unfold topL; rw [List.take_succ_eq_append_getElem h, List.foldl_append]; rfl

theorem specL_len (kind v : Int) : (specL kind v).length ≤ 10 := by
  unfold specL; split
  · exact Nat.le_trans (List.length_filter_le _ _) (formOf_len kind)
  · simp
theorem formOf_num (kind : Int) : ∀ s ∈ formOf kind, s.num ≤ 10 := by
  rcases formOf_cases kind with ⟨_, h⟩ | rfl | rfl | rfl | rfl | rfl | rfl | rfl
  · rw [h]; simp
  all_goals decide
theorem specL_num (kind v : Int) : ∀ s ∈ specL kind v, s.num ≤ 10 := by
  unfold specL; split
  · intro s hs; exact formOf_num kind s (List.mem_filter.1 hs).1
  · simp
theorem topL_le {n : Nat} : ∀ (l : List SpV), (∀ s ∈ l, s.num ≤ n) → ∀ a, a ≤ n → l.foldl (fun a s => max a s.num) a ≤ n
  | [], _, a, h => h
  | s :: r, hl, a, h => by
    have := hl s (List.mem_cons_self ..)
    exact topL_le r (fun z hz => hl z (List.mem_cons_of_mem _ hz)) (max a s.num) (by omega)

set_option maxRecDepth 100000 in
set_option maxHeartbeats 800000 in
theorem forms_Specs (kind v : Int) (w : World) : Calls Try.prog 72 #[.int .i64 kind, .int .i64 v] w fun e w' => ∃ V, e = .returned V ∧ w'.ownsRow w.heap.size 108 5 V (specL kind v).length (specOf (specL kind v)) ∧ Ext w w' := by
  by_cases h1 : v < 1
  · rw [show specL kind v = [] by unfold specL; rw [if_neg (by omega)]]
    go_enter Try.func72, Try.ntmps72
    go_wp2
    go_ret
    exact ⟨_, rfl, World.ownsRow_nil _ _ _ _, Ext.refl w⟩
  · by_cases h2 : 3 < v
    · rw [show specL kind v = [] by unfold specL; rw [if_neg (by omega)]]
      go_enter Try.func72, Try.ntmps72
      go_wp2
      go_ret
      exact ⟨_, rfl, World.ownsRow_nil _ _ _ _, Ext.refl w⟩
    · rw [show specL kind v = (formOf kind).filter (fun s => decide ((s.since : Int) ≤ v)) by unfold specL; rw [if_pos (by omega)]]
      have HA := Lib.hid (forms_all kind w)
      have hl := formOf_len kind
      generalize formOf kind = F at *
      go_enter Try.func72, Try.ntmps72
      go_wp2_with fail
      refine HA.out.mono ?_
      rintro e w1 ⟨V, rfl, hown, x1⟩
      obtain ⟨A, c, rfl, _⟩ := own_form hown
      have hS := Ss.of_own hown
      clear hown HA
      generalize hN : F.length = N at *
      have HN := Lib.hid hN; clear hN
      have h0 := World.ownsRow_nil w1 w1.heap.size 108 5
      go_wp2
      go_loopw [5, 17] (fun acc i wr => ∃ j : Nat, i = .int .i64 j ∧ j ≤ N ∧ wr.ownsRow w1.heap.size 108 5 acc ((F.take j).filter (fun s => decide ((s.since : Int) ≤ v))).length (specOf ((F.take j).filter (fun s => decide ((s.since : Int) ≤ v)))) ∧ Ext w1 wr) (fun _ i _ => N - (intOf i).toNat)
      case atStart => exact ⟨0, rfl, by omega, by simpa [specOf] using h0, Ext.refl _⟩
      case round =>
        obtain ⟨j, rfl, hj, hown, hx⟩ := hrel
        by_cases hjn : j < N
        · obtain ⟨b, off, rfl, d0, d1, d2, d3, d4⟩ := (hS.ext hx).at_ hjn
          have hsn := filter_snoc (fun s : SpV => decide ((s.since : Int) ≤ v)) F j (by rw [HN.out]; exact hjn)
          have hle : ((F.take j).filter (fun s => decide ((s.since : Int) ≤ v))).length ≤ j := Nat.le_trans (List.length_filter_le _ _) (List.length_take_le _ _)
          generalize F[j]'(by rw [HN.out]; exact hjn) = f at *
          have Hsn := Lib.hid hsn; clear hsn
          have hszw := hx.size
          by_cases hs : (f.since : Int) ≤ v
          · go_wp2_with (at_builtin; refine wpList_app specT (by omega) _ rfl rfl rfl ((hown.alloc _).alloc _) rfl (rd_at5 _ (.int .i64 f.num) (.int .i64 f.wire) (.int .i64 f.since) (.bool f.need) (.bool f.many) _ _ (by simp)) (scells_one _ _ _ _ _) (by unfold maxLen; omega) (by omega) (by simp; omega) ?_; intro v1 w2 hown1 hg1 hat1)
            go_roundw
            case rel => exact ⟨j + 1, val_int (by omega), by omega, own_to hown1 (Nat.le_refl _) (by rw [Hsn.out]; simp [hs]) (by rw [Hsn.out, specOf_append]; simp [hs, specOf_one, SpV.cells]), Below.app ((hx.alloc _).alloc _) hg1 (by simp; omega) ((hown.alloc _).alloc _) (Nat.le_refl _)⟩
            case measure => simp [intOf]; omega
          · go_wp2
            go_roundw
            case rel => exact ⟨j + 1, val_int (by omega), by omega, own_to (hown.alloc _) (Nat.le_refl _) (by rw [Hsn.out]; simp [hs]) (by rw [Hsn.out, specOf_append]; simp [hs, specOf]), hx.alloc _⟩
            case measure => simp [intOf]; omega
        · obtain rfl : j = N := by omega
          go_wp2
          go_ret
          refine ⟨_, rfl, own_to hown (x1.size) (by rw [List.take_of_length_le (by rw [HN.out]; exact Nat.le_refl _)]) (by rw [List.take_of_length_le (by rw [HN.out]; exact Nat.le_refl _)]), x1.trans hx⟩

set_option maxRecDepth 100000 in
set_option maxHeartbeats 800000 in
theorem forms_Top (kind v : Int) (w : World) : Calls Try.prog 44 #[.int .i64 kind, .int .i64 v] w fun e w' => e = .returned (.int .i64 (topL (specL kind v))) ∧ Ext w w' := by
  have HA := Lib.hid (forms_Specs kind v w)
  have hl := specL_len kind v
  have hm := topL_le (specL kind v) (specL_num kind v)
  generalize specL kind v = F at *
  go_enter Try.func44, Try.ntmps44
  go_wp2_with fail
  refine HA.out.mono ?_
  rintro e w1 ⟨V, rfl, hown, x1⟩
  obtain ⟨A, c, rfl, _⟩ := own_form hown
  have hS := Ss.of_own hown
  clear hown HA hm
  generalize hN : F.length = N at *
  have HN := Lib.hid hN; clear hN
  go_wp2
  go_loopw [5, 12] (fun acc i wr => ∃ j : Nat, i = .int .i64 j ∧ j ≤ N ∧ acc = .int .i64 (topL (F.take j)) ∧ Ext w1 wr) (fun _ i _ => N - (intOf i).toNat)
  case atStart => exact ⟨0, rfl, by omega, rfl, Ext.refl _⟩
  case round =>
    obtain ⟨j, rfl, hj, rfl, hx⟩ := hrel
    by_cases hjn : j < N
    · obtain ⟨b, off, rfl, d0, d1, d2, d3, d4⟩ := (hS.ext hx).at_ hjn
      have hsn := topL_snoc F j (by rw [HN.out]; exact hjn)
      generalize F[j]'(by rw [HN.out]; exact hjn) = f at *
      have Hsn := Lib.hid hsn; clear hsn
      go_wp2
      go_outline
      go_roundw
      case rel => exact ⟨j + 1, val_int (by omega), by omega, by rw [Hsn.out]; exact val_int (by omega), hx.alloc _⟩
      case measure => simp [intOf]; omega
    · obtain rfl : j = N := by omega
      go_wp2
      go_ret
      exact ⟨by rw [List.take_of_length_le (by rw [HN.out]; exact Nat.le_refl _)]; rfl, x1.trans hx⟩
end Go.Proofs.Ytcoaofaofmbfbaa
