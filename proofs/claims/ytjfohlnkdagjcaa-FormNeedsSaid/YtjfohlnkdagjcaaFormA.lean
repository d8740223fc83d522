/- The walk of forms.all: what records may have. -/
import Derived.Test.YtjfohlnkdagjcaaProg
import Derived.Test.YtjfohlnkdagjcaaSpec
import Derived.Test.YtjfohlnkdagjcaaOpen2
namespace Go.Proofs.Ytjfohlnkdagjcaa
open Go.RowKit

set_option maxRecDepth 100000 in
theorem forms_number (num since : Int) (w : World) : Calls Try.prog 64 #[.int .i64 num, .int .i64 since] w fun e w' => e = .returned (.agg #[.int .i64 num, .int .i64 0, .int .i64 since, .bool false, .bool false]) ∧ Ext w w' := by
  go_enter Try.func64, Try.ntmps64
  go_wp2
  refine bodyPost_ret (v := .agg #[.int .i64 num, .int .i64 0, .int .i64 since, .bool false, .bool false]) (by simp [results, Try.results64, go_sem]) rfl ⟨rfl, ?_⟩
  repeat (refine Ext.setCell ?_ (by simp) _)
  exact (Ext.refl w).alloc _

set_option maxRecDepth 100000 in
theorem forms_bytes (num since : Int) (w : World) : Calls Try.prog 65 #[.int .i64 num, .int .i64 since] w fun e w' => e = .returned (.agg #[.int .i64 num, .int .i64 2, .int .i64 since, .bool false, .bool false]) ∧ Ext w w' := by
  go_enter Try.func65, Try.ntmps65
  go_wp2
  refine bodyPost_ret (v := .agg #[.int .i64 num, .int .i64 2, .int .i64 since, .bool false, .bool false]) (by simp [results, Try.results65, go_sem]) rfl ⟨rfl, ?_⟩
  repeat (refine Ext.setCell ?_ (by simp) _)
  exact (Ext.refl w).alloc _

set_option maxRecDepth 100000 in
theorem forms_need (a b c : Int) (d e : Bool) (w : World) : Calls Try.prog 66 #[.agg #[.int .i64 a, .int .i64 b, .int .i64 c, .bool d, .bool e]] w fun r w' => r = .returned (.agg #[.int .i64 a, .int .i64 b, .int .i64 c, .bool true, .bool e]) ∧ Ext w w' := by
  go_enter Try.func66, Try.ntmps66
  go_wp2
  refine bodyPost_ret (v := .agg #[.int .i64 a, .int .i64 b, .int .i64 c, .bool true, .bool e]) (by simp [results, Try.results66, go_sem]) rfl ⟨rfl, ?_⟩
  repeat (refine Ext.setCell ?_ (by simp) _)
  exact ((Ext.refl w).alloc _).alloc _

set_option maxRecDepth 100000 in
theorem forms_many (a b c : Int) (d e : Bool) (w : World) : Calls Try.prog 67 #[.agg #[.int .i64 a, .int .i64 b, .int .i64 c, .bool d, .bool e]] w fun r w' => r = .returned (.agg #[.int .i64 a, .int .i64 b, .int .i64 c, .bool d, .bool true]) ∧ Ext w w' := by
  go_enter Try.func67, Try.ntmps67
  go_wp2
  refine bodyPost_ret (v := .agg #[.int .i64 a, .int .i64 b, .int .i64 c, .bool d, .bool true]) (by simp [results, Try.results67, go_sem]) rfl ⟨rfl, ?_⟩
  repeat (refine Ext.setCell ?_ (by simp) _)
  exact ((Ext.refl w).alloc _).alloc _

set_option maxRecDepth 100000 in
set_option maxHeartbeats 3200000 in
theorem forms_all (kind : Int) (w : World) : Calls Try.prog 60 #[.int .i64 kind] w fun e w' => ∃ v, e = .returned v ∧ w'.ownsRow w.heap.size 60 5 v (formOf kind).length (specOf (formOf kind)) ∧ Ext w w' := by
  have hI := MapIs.made 60 w
  have ZV : Hid (∀ w, (zeroValue 56).run Try.prog w = .ok (.slice none 0 0) w) := Lib.hid (fun w => by kernel_rfl)
  go_enter Try.func60, Try.ntmps60
  simp only [List.append_eq, List.cons_append, List.nil_append]
  go_wp2_with (refine wpList_makeMap (by rfl) (by rfl) ?_; intro ops R hR; have HR := Lib.hid hR; clear hR)
  have hR := HR.out
  clear HR
  subst hR
  refine wpList_hide 20 ?_
  intro ops R hR
  have HR := Lib.hid hR; clear hR
  simp only [List.take_succ_cons, List.take_zero, List.cons_append, List.nil_append]
  go_wp2_with (first
    | (refine wpList_named 64 (by rfl) ?_)
    | (refine wpList_named 65 (by rfl) ?_)
    | (refine wpList_named 66 (by rfl) ?_)
    | (refine wpList_named 67 (by rfl) ?_)
    | (go_at_call 64; refine (forms_number _ _ _).mono ?_; rintro e w9 ⟨rfl, x9⟩; replace hI := hI.call x9; clear x9)
    | (go_at_call 65; refine (forms_bytes _ _ _).mono ?_; rintro e w9 ⟨rfl, x9⟩; replace hI := hI.call x9; clear x9)
    | (go_at_call 66; refine (forms_need _ _ _ _ _ _).mono ?_; rintro e w9 ⟨rfl, x9⟩; replace hI := hI.call x9; clear x9)
    | (go_at_call 67; refine (forms_many _ _ _ _ _ _).mono ?_; rintro e w9 ⟨rfl, x9⟩; replace hI := hI.call x9; clear x9)
    | (refine wpList_insert Try.underlying82 Try.underlying3 hI 1 [nN 1, nS 2 1, nS 3 1, nS 4 1, nS 5 1, nS 6 1, bS 7 1, bS 8 3] _ (by rfl) (by decide) 8 (by rfl) (by rfl) _ _ _ (by rfl) (by rfl) (by rfl) (by rfl) ?_; clear hI; intro w9 hI))
  have hR := HR.out
  clear HR
  simp only [List.drop_succ_cons, List.drop_zero] at hR
  subst hR
  refine wpList_hide 18 ?_
  intro ops R hR
  have HR := Lib.hid hR; clear hR
  simp only [List.take_succ_cons, List.take_zero, List.cons_append, List.nil_append]
  go_wp2_with (first
    | (refine wpList_named 64 (by rfl) ?_)
    | (refine wpList_named 65 (by rfl) ?_)
    | (refine wpList_named 66 (by rfl) ?_)
    | (refine wpList_named 67 (by rfl) ?_)
    | (go_at_call 64; refine (forms_number _ _ _).mono ?_; rintro e w9 ⟨rfl, x9⟩; replace hI := hI.call x9; clear x9)
    | (go_at_call 65; refine (forms_bytes _ _ _).mono ?_; rintro e w9 ⟨rfl, x9⟩; replace hI := hI.call x9; clear x9)
    | (go_at_call 66; refine (forms_need _ _ _ _ _ _).mono ?_; rintro e w9 ⟨rfl, x9⟩; replace hI := hI.call x9; clear x9)
    | (go_at_call 67; refine (forms_many _ _ _ _ _ _).mono ?_; rintro e w9 ⟨rfl, x9⟩; replace hI := hI.call x9; clear x9)
    | (refine wpList_insert Try.underlying82 Try.underlying3 hI 2 [nN 1, nN 2, ⟨3, 2, 1, true, false⟩, nS 4 2, bS 5 3] _ (by rfl) (by decide) 5 (by rfl) (by rfl) _ _ _ (by rfl) (by rfl) (by rfl) (by rfl) ?_; clear hI; intro w9 hI))
  have hR := HR.out
  clear HR
  simp only [List.drop_succ_cons, List.drop_zero] at hR
  subst hR
  refine wpList_hide 10 ?_
  intro ops R hR
  have HR := Lib.hid hR; clear hR
  simp only [List.take_succ_cons, List.take_zero, List.cons_append, List.nil_append]
  go_wp2_with (first
    | (refine wpList_named 64 (by rfl) ?_)
    | (refine wpList_named 65 (by rfl) ?_)
    | (refine wpList_named 66 (by rfl) ?_)
    | (refine wpList_named 67 (by rfl) ?_)
    | (go_at_call 64; refine (forms_number _ _ _).mono ?_; rintro e w9 ⟨rfl, x9⟩; replace hI := hI.call x9; clear x9)
    | (go_at_call 65; refine (forms_bytes _ _ _).mono ?_; rintro e w9 ⟨rfl, x9⟩; replace hI := hI.call x9; clear x9)
    | (go_at_call 66; refine (forms_need _ _ _ _ _ _).mono ?_; rintro e w9 ⟨rfl, x9⟩; replace hI := hI.call x9; clear x9)
    | (go_at_call 67; refine (forms_many _ _ _ _ _ _).mono ?_; rintro e w9 ⟨rfl, x9⟩; replace hI := hI.call x9; clear x9)
    | (refine wpList_insert Try.underlying82 Try.underlying3 hI 3 [nN 1, nN 2] _ (by rfl) (by decide) 2 (by rfl) (by rfl) _ _ _ (by rfl) (by rfl) (by rfl) (by rfl) ?_; clear hI; intro w9 hI))
  have hR := HR.out
  clear HR
  simp only [List.drop_succ_cons, List.drop_zero] at hR
  subst hR
  refine wpList_hide 12 ?_
  intro ops R hR
  have HR := Lib.hid hR; clear hR
  simp only [List.take_succ_cons, List.take_zero, List.cons_append, List.nil_append]
  go_wp2_with (first
    | (refine wpList_named 64 (by rfl) ?_)
    | (refine wpList_named 65 (by rfl) ?_)
    | (refine wpList_named 66 (by rfl) ?_)
    | (refine wpList_named 67 (by rfl) ?_)
    | (go_at_call 64; refine (forms_number _ _ _).mono ?_; rintro e w9 ⟨rfl, x9⟩; replace hI := hI.call x9; clear x9)
    | (go_at_call 65; refine (forms_bytes _ _ _).mono ?_; rintro e w9 ⟨rfl, x9⟩; replace hI := hI.call x9; clear x9)
    | (go_at_call 66; refine (forms_need _ _ _ _ _ _).mono ?_; rintro e w9 ⟨rfl, x9⟩; replace hI := hI.call x9; clear x9)
    | (go_at_call 67; refine (forms_many _ _ _ _ _ _).mono ?_; rintro e w9 ⟨rfl, x9⟩; replace hI := hI.call x9; clear x9)
    | (refine wpList_insert Try.underlying82 Try.underlying3 hI 4 [nN 1, nS 2 1, nS 3 1, nS 4 1] _ (by rfl) (by decide) 4 (by rfl) (by rfl) _ _ _ (by rfl) (by rfl) (by rfl) (by rfl) ?_; clear hI; intro w9 hI))
  have hR := HR.out
  clear HR
  simp only [List.drop_succ_cons, List.drop_zero] at hR
  subst hR
  refine wpList_hide 26 ?_
  intro ops R hR
  have HR := Lib.hid hR; clear hR
  simp only [List.take_succ_cons, List.take_zero, List.cons_append, List.nil_append]
  go_wp2_with (first
    | (refine wpList_named 64 (by rfl) ?_)
    | (refine wpList_named 65 (by rfl) ?_)
    | (refine wpList_named 66 (by rfl) ?_)
    | (refine wpList_named 67 (by rfl) ?_)
    | (go_at_call 64; refine (forms_number _ _ _).mono ?_; rintro e w9 ⟨rfl, x9⟩; replace hI := hI.call x9; clear x9)
    | (go_at_call 65; refine (forms_bytes _ _ _).mono ?_; rintro e w9 ⟨rfl, x9⟩; replace hI := hI.call x9; clear x9)
    | (go_at_call 66; refine (forms_need _ _ _ _ _ _).mono ?_; rintro e w9 ⟨rfl, x9⟩; replace hI := hI.call x9; clear x9)
    | (go_at_call 67; refine (forms_many _ _ _ _ _ _).mono ?_; rintro e w9 ⟨rfl, x9⟩; replace hI := hI.call x9; clear x9)
    | (refine wpList_insert Try.underlying82 Try.underlying3 hI 5 [nN 1, nN 2, nS 3 1, bM 4, bM 5, bM 6, nS 7 3] _ (by rfl) (by decide) 7 (by rfl) (by rfl) _ _ _ (by rfl) (by rfl) (by rfl) (by rfl) ?_; clear hI; intro w9 hI))
  have hR := HR.out
  clear HR
  simp only [List.drop_succ_cons, List.drop_zero] at hR
  subst hR
  refine wpList_hide 32 ?_
  intro ops R hR
  have HR := Lib.hid hR; clear hR
  simp only [List.take_succ_cons, List.take_zero, List.cons_append, List.nil_append]
  go_wp2_with (first
    | (refine wpList_named 64 (by rfl) ?_)
    | (refine wpList_named 65 (by rfl) ?_)
    | (refine wpList_named 66 (by rfl) ?_)
    | (refine wpList_named 67 (by rfl) ?_)
    | (go_at_call 64; refine (forms_number _ _ _).mono ?_; rintro e w9 ⟨rfl, x9⟩; replace hI := hI.call x9; clear x9)
    | (go_at_call 65; refine (forms_bytes _ _ _).mono ?_; rintro e w9 ⟨rfl, x9⟩; replace hI := hI.call x9; clear x9)
    | (go_at_call 66; refine (forms_need _ _ _ _ _ _).mono ?_; rintro e w9 ⟨rfl, x9⟩; replace hI := hI.call x9; clear x9)
    | (go_at_call 67; refine (forms_many _ _ _ _ _ _).mono ?_; rintro e w9 ⟨rfl, x9⟩; replace hI := hI.call x9; clear x9)
    | (refine wpList_insert Try.underlying82 Try.underlying3 hI 6 [nN 1, nN 2, nN 3, nN 4, nS 5 1, nS 6 1, nS 7 1, nS 8 1, nS 9 1, bM 10] _ (by rfl) (by decide) 10 (by rfl) (by rfl) _ _ _ (by rfl) (by rfl) (by rfl) (by rfl) ?_; clear hI; intro w9 hI))
  have hR := HR.out
  clear HR
  simp only [List.drop_succ_cons, List.drop_zero] at hR
  subst hR
  refine wpList_hide 8 ?_
  intro ops R hR
  have HR := Lib.hid hR; clear hR
  simp only [List.take_succ_cons, List.take_zero, List.cons_append, List.nil_append]
  go_wp2_with (first
    | (refine wpList_named 64 (by rfl) ?_)
    | (refine wpList_named 65 (by rfl) ?_)
    | (refine wpList_named 66 (by rfl) ?_)
    | (refine wpList_named 67 (by rfl) ?_)
    | (go_at_call 64; refine (forms_number _ _ _).mono ?_; rintro e w9 ⟨rfl, x9⟩; replace hI := hI.call x9; clear x9)
    | (go_at_call 65; refine (forms_bytes _ _ _).mono ?_; rintro e w9 ⟨rfl, x9⟩; replace hI := hI.call x9; clear x9)
    | (go_at_call 66; refine (forms_need _ _ _ _ _ _).mono ?_; rintro e w9 ⟨rfl, x9⟩; replace hI := hI.call x9; clear x9)
    | (go_at_call 67; refine (forms_many _ _ _ _ _ _).mono ?_; rintro e w9 ⟨rfl, x9⟩; replace hI := hI.call x9; clear x9)
    | (refine wpList_insert Try.underlying82 Try.underlying3 hI 7 [nN 1, bS 2 1] _ (by rfl) (by decide) 2 (by rfl) (by rfl) _ _ _ (by rfl) (by rfl) (by rfl) (by rfl) ?_; clear hI; intro w9 hI))
  have hR := HR.out
  clear HR
  simp only [List.drop_succ_cons, List.drop_zero] at hR
  subst hR
  go_wp2_with (refine wpList_look Try.underlying82 Try.underlying3 ZV.out hI (by decide) kind (by rfl) _ _ (by rfl) (by rfl) (by rfl) ?_; intro v hv)
  go_ret
  exact ⟨v, rfl, hv, hI.ext⟩
end Go.Proofs.Ytjfohlnkdagjcaa
