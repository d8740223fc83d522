/- What May says of catalogues that are alike, in plain words. -/
import Derived.Test.YtiildgoaiookhaaStO
namespace Go.Proofs.Ytiildgoaiookhaa
open Go.RowKit

theorem codeB_0 {b : Bool} : codeB b = 0 ↔ b = true := by rcases b with _ | _ <;> simp [codeB]
theorem kmay_ok {s : KV} {v : Int} (h1 : 1 ≤ v) (h3 : v ≤ 3) : kmay s v = 0 ↔ numB s v = true ∧ sesOk s.ses = true ∧ opsOk s.ops = true ∧ snsB v s.next s.sns = true := by
  unfold kmay
  rw [if_neg (by rw [inI_t h1 h3]; simp), codeB_0]
  simp only [Bool.and_eq_true]
  constructor
  · rintro ⟨⟨⟨a, b⟩, c⟩, d⟩; exact ⟨a, b, c, d⟩
  · rintro ⟨a, b, c, d⟩; exact ⟨⟨⟨a, b⟩, c⟩, d⟩
theorem numB_iff {s : KV} {v : Int} : numB s v = true ↔ (1 ≤ s.ver ∧ s.ver ≤ 3) ∧ (1 ≤ s.next ∧ s.next ≤ 1048576) ∧ (0 ≤ s.keep ∧ s.keep ≤ 8) ∧ (0 ≤ s.quota ∧ s.quota ≤ quotaLim v) := by
  unfold numB; simp only [Bool.and_eq_true, inI_iff]
theorem snsB_iff {v next : Int} {l : List NV} : snsB v next l = true ↔ l.length ≤ 16 ∧ risB NV.id (next - 1) 0 l = true ∧ ∀ f ∈ l, snB v (tagLim v) f = true := by
  unfold snsB; simp only [Bool.and_eq_true, decide_eq_true_eq, List.all_eq_true]
theorem quotaLim_up {v : Int} : quotaLim v ≤ quotaLim (v + 1) := by unfold quotaLim; split <;> split <;> omega
theorem tagLim_up {v : Int} : tagLim v ≤ tagLim (v + 1) := by unfold tagLim; split <;> split <;> omega
theorem kmay_up {s : KV} {v : Int} (h1 : 1 ≤ v) (h2 : v ≤ 2) (h : kmay s v = 0) : kmay s (v + 1) = 0 := by
  obtain ⟨a, b, c, d⟩ := (kmay_ok h1 (by omega)).1 h
  refine (kmay_ok (by omega) (by omega)).2 ⟨?_, b, c, ?_⟩
  · obtain ⟨x1, x2, x3, x4⟩ := numB_iff.1 a
    have := quotaLim_up (v := v)
    exact numB_iff.2 ⟨x1, x2, x3, x4.1, by omega⟩
  · obtain ⟨y1, y2, y3⟩ := snsB_iff.1 d
    refine snsB_iff.2 ⟨y1, y2, fun f hf => ?_⟩
    obtain ⟨z1, z2, z3, z4⟩ := snB_ok.1 (y3 f hf)
    have := tagLim_up (v := v)
    exact snB_ok.2 ⟨z1, z2, fun h => by have := z3 h; omega, by omega⟩
theorem risB_map {α : Type} {key : α → Int} {m : Int} {g : α → α} (hg : ∀ x, key (g x) = key x) : ∀ (l : List α) (a : Int), risB key m a (l.map g) = risB key m a l
  | [], _ => rfl
  | x :: r, a => by rw [List.map_cons, risB_cons, risB_cons, hg, risB_map hg r]
/-- a snapshot without what is new behind a version -/
def bareN (v : Int) (f : NV) : NV := ⟨f.id, f.set, f.A, f.len, f.cap, f.ch, if v = 1 then false else f.held, if v = 2 then ⟨#[]⟩ else f.tag⟩
theorem bareN_ok {v : Int} {f : NV} {w : World} (h : f.Ok w) : (bareN v f).Ok w :=
  ⟨h.u0, h.u1, h.cs, h.le, h.cap, h.uc, by
    have := h.ut
    unfold bareN; dsimp only
    split
    · exact Nat.zero_le _
    · exact this⟩
def bareK (v : Int) (s : KV) (A : Option Addr) (c : Nat) : KV := ⟨s.ver, s.next, s.keep, if v = 2 then 0 else s.quota, s.A1, s.n1, s.c1, s.ses, s.A2, s.n2, s.c2, s.ops, A, s.n3, c, s.sns.map (bareN v)⟩
theorem bareK_may {s : KV} {v : Int} (A : Option Addr) (c : Nat) (hv : v = 1 ∨ v = 2) (h : kmay s (v + 1) = 0) : kmay (bareK v s A c) v = 0 := by
  obtain ⟨a, b, c', d⟩ := (kmay_ok (by omega) (by omega)).1 h
  refine (kmay_ok (by omega) (by omega)).2 ⟨?_, b, c', ?_⟩
  · obtain ⟨x1, x2, x3, x4⟩ := numB_iff.1 a
    refine numB_iff.2 ⟨x1, x2, x3, ?_⟩
    unfold bareK quotaLim
    dsimp only
    unfold quotaLim at x4
    rcases hv with rfl | rfl
    · rw [if_neg (by omega), if_pos (by omega)]; rw [if_pos (by omega)] at x4; exact x4
    · rw [if_pos rfl, if_pos (by omega)]; omega
  · obtain ⟨y1, y2, y3⟩ := snsB_iff.1 d
    refine snsB_iff.2 ⟨by unfold bareK; simpa using y1, by unfold bareK; dsimp only; rw [risB_map (g := bareN v) (fun _ => rfl)]; exact y2, ?_⟩
    intro f hf
    obtain ⟨g, hg, rfl⟩ := List.mem_map.1 hf
    obtain ⟨z1, z2, z3, z4⟩ := snB_ok.1 (y3 g hg)
    rcases hv with rfl | rfl
    · exact snB_ok.2 ⟨z1, z2, fun h => by simp [bareN] at h, z4⟩
    · refine snB_ok.2 ⟨z1, z2, fun _ => by omega, ?_⟩
      unfold bareN tagLim
      dsimp only
      rw [if_pos rfl, if_pos (by omega)]
      exact Int.le_refl 0
end Go.Proofs.Ytiildgoaiookhaa
