/- A catalogue without one of its things, or with a snapshot twice: what May says, in plain words. -/
import Derived.Test.YtiildgoaiookhaaStP
namespace Go.Proofs.Ytiildgoaiookhaa
open Go.RowKit

theorem risB_weak {α : Type} {key : α → Int} {m : Int} : ∀ {l : List α} {a a' : Int}, a' ≤ a → risB key m a l = true → risB key m a' l = true
  | [], _, _, _, _ => rfl
  | e :: r, a, a', h, hr => by
    rw [risB_cons] at hr ⊢
    simp only [Bool.and_eq_true] at hr ⊢
    obtain ⟨k1, k2⟩ := inI_iff.1 hr.1
    exact ⟨inI_t (by omega) k2, hr.2⟩
theorem risB_less {α : Type} {key : α → Int} {m : Int} {x : α} : ∀ {l1 l2 : List α} {a : Int}, risB key m a (l1 ++ x :: l2) = true → risB key m a (l1 ++ l2) = true
  | [], l2, a, h => by
    rw [List.nil_append, risB_cons] at h
    simp only [Bool.and_eq_true] at h
    obtain ⟨k1, _⟩ := inI_iff.1 h.1
    exact risB_weak (by omega) h.2
  | e :: r, l2, a, h => by
    rw [List.cons_append, risB_cons] at h ⊢
    simp only [Bool.and_eq_true] at h ⊢
    exact ⟨h.1, risB_less h.2⟩
theorem risB_gt {α : Type} {key : α → Int} {m : Int} : ∀ {l : List α} {a : Int}, risB key m a l = true → ∀ y ∈ l, a < key y
  | [], _, _, y, hy => by simp at hy
  | e :: r, a, h, y, hy => by
    rw [risB_cons] at h
    simp only [Bool.and_eq_true] at h
    obtain ⟨k1, _⟩ := inI_iff.1 h.1
    rcases List.mem_cons.1 hy with rfl | hy
    · omega
    · have := risB_gt h.2 y hy; omega
theorem risB_last {α : Type} {key : α → Int} {m : Int} {x : α} : ∀ {l : List α} {a : Int}, risB key m a (l ++ [x]) = true → ∀ y ∈ l, key y < key x
  | [], _, _, y, hy => by simp at hy
  | e :: r, a, h, y, hy => by
    rw [List.cons_append, risB_cons] at h
    simp only [Bool.and_eq_true] at h
    rcases List.mem_cons.1 hy with rfl | hy
    · exact risB_gt h.2 x (by simp)
    · exact risB_last h.2 y hy
theorem take_drop_mid {α : Type} (l : List α) (i : Nat) (h : i < l.length) : l = l.take i ++ l[i] :: l.drop (i + 1) := by
  rw [← List.drop_eq_getElem_cons h, List.take_append_drop]
/-- without one of its clients -/
def lessSes (t : KV) (i : Nat) (A : Option Addr) (n c : Nat) : KV := ⟨t.ver, t.next, t.keep, t.quota, A, n, c, t.ses.take i ++ t.ses.drop (i + 1), t.A2, t.n2, t.c2, t.ops, t.A3, t.n3, t.c3, t.sns⟩
def lessOps (t : KV) (i : Nat) (A : Option Addr) (n c : Nat) : KV := ⟨t.ver, t.next, t.keep, t.quota, t.A1, t.n1, t.c1, t.ses, A, n, c, t.ops.take i ++ t.ops.drop (i + 1), t.A3, t.n3, t.c3, t.sns⟩
def lessSns (t : KV) (i : Nat) (A : Option Addr) (n c : Nat) : KV := ⟨t.ver, t.next, t.keep, t.quota, t.A1, t.n1, t.c1, t.ses, t.A2, t.n2, t.c2, t.ops, A, n, c, t.sns.take i ++ t.sns.drop (i + 1)⟩
def moreSns (t : KV) (x : NV) (A : Option Addr) (n c : Nat) : KV := ⟨t.ver, t.next, t.keep, t.quota, t.A1, t.n1, t.c1, t.ses, t.A2, t.n2, t.c2, t.ops, A, n, c, t.sns ++ [x]⟩
section
variable {t : KV} {v : Int} {i : Nat} {A : Option Addr} {n c : Nat}
theorem lessSes_may (h1 : 1 ≤ v) (h3 : v ≤ 3) (h : kmay t v = 0) (hi : i < t.ses.length) : kmay (lessSes t i A n c) v = 0 := by
  obtain ⟨a, b, d, e⟩ := (kmay_ok h1 h3).1 h
  refine (kmay_ok h1 h3).2 ⟨a, ?_, d, e⟩
  unfold sesOk at b ⊢
  rw [take_drop_mid t.ses i hi] at b
  simp only [Bool.and_eq_true] at b ⊢
  refine ⟨risB_less b.1, ?_⟩
  have := b.2
  simp only [lessSes, List.all_append, List.all_cons, Bool.and_eq_true] at this ⊢
  exact ⟨this.1, this.2.2⟩
theorem lessOps_may (h1 : 1 ≤ v) (h3 : v ≤ 3) (h : kmay t v = 0) (hi : i < t.ops.length) : kmay (lessOps t i A n c) v = 0 := by
  obtain ⟨a, b, d, e⟩ := (kmay_ok h1 h3).1 h
  refine (kmay_ok h1 h3).2 ⟨a, b, ?_, e⟩
  unfold opsOk at d ⊢
  rw [take_drop_mid t.ops i hi] at d
  simp only [Bool.and_eq_true] at d ⊢
  refine ⟨risB_less d.1, ?_⟩
  have := d.2
  simp only [lessOps, List.all_append, List.all_cons, Bool.and_eq_true] at this ⊢
  exact ⟨this.1, this.2.2⟩
theorem lessSns_may (h1 : 1 ≤ v) (h3 : v ≤ 3) (h : kmay t v = 0) (hi : i < t.sns.length) : kmay (lessSns t i A n c) v = 0 := by
  obtain ⟨a, b, d, e⟩ := (kmay_ok h1 h3).1 h
  refine (kmay_ok h1 h3).2 ⟨a, b, d, ?_⟩
  obtain ⟨y1, y2, y3⟩ := snsB_iff.1 e
  refine snsB_iff.2 ⟨?_, ?_, ?_⟩
  · unfold lessSns; simp only [List.length_append, List.length_take, List.length_drop]; omega
  · rw [take_drop_mid t.sns i hi] at y2; exact risB_less y2
  · intro f hf
    refine y3 f ?_
    rcases List.mem_append.1 hf with hf | hf
    · exact List.mem_of_mem_take hf
    · exact List.mem_of_mem_drop hf
theorem moreSns_may (h1 : 1 ≤ v) (h3 : v ≤ 3) (x : NV) (hx : x ∈ t.sns) : kmay (moreSns t x A n c) v = 6 := by
  unfold kmay
  rw [if_neg (by rw [inI_t h1 h3]; simp)]
  have : snsB v (moreSns t x A n c).next (moreSns t x A n c).sns = false := by
    by_cases hc : snsB v (moreSns t x A n c).next (moreSns t x A n c).sns = true
    · exfalso
      obtain ⟨_, y2, _⟩ := snsB_iff.1 hc
      have := risB_last y2 x hx
      omega
    · simpa using hc
  rw [this, Bool.and_false]; rfl
end
end Go.Proofs.Ytiildgoaiookhaa
