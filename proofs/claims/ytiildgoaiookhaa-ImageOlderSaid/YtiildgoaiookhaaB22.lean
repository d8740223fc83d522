/- Words and walks that the last text of this claim stands on: StX. No condition. -/
import Derived.Test.YtiildgoaiookhaaB13
import Derived.Test.YtiildgoaiookhaaB09
/- The reference's May of a catalogue says what state.May says. -/
namespace Go.Proofs.Ytiildgoaiookhaa
open Go.RowKit

theorem chk_ris {α : Type} {key : α → Int} {one : α → Bool} {p : α → Bool} {m : Int} (h1 : ∀ x, one x = (inI (key x) 1 m && p x)) : ∀ (l : List α) (q : Option α) (a : Int), 0 ≤ a → (match q with | none => a = 0 | some y => a = key y) → chkR key one q l = (risB key m a l && l.all p)
  | [], q, a, _, _ => by rw [chkR_nil]; rfl
  | x :: r, q, a, ha, hq => by
    rw [chkR_cons, risB_cons, List.all_cons, h1]
    have hr : rsB key q x = decide (a < key x) ∨ (q = none ∧ a = 0) := by
      rcases q with _ | y
      · exact .inr ⟨rfl, hq⟩
      · left; unfold rsB; rw [show a = key y from hq]
    by_cases hin : inI (key x) 1 m = true
    · obtain ⟨k1, k2⟩ := inI_iff.1 hin
      have ih := chk_ris h1 r (some x) (key x) (by omega) rfl
      rw [ih, hin, Bool.true_and]
      by_cases hlt : a < key x
      · have e1 : inI (key x) (a + 1) m = true := inI_t (by omega) k2
        have e2 : rsB key q x = true := by
          rcases hr with hr | ⟨rfl, _⟩
          · rw [hr, dec_t hlt]
          · rfl
        rw [e1, e2, Bool.and_true, Bool.true_and]
        rcases p x with _ | _
        · simp
        · simp
      · have e1 : inI (key x) (a + 1) m = false := inI_f (.inl (by omega))
        have e2 : rsB key q x = false := by
          rcases hr with hr | ⟨rfl, h0⟩
          · rw [hr, dec_f hlt]
          · omega
        rw [e1, e2]
        simp
    · have hin' : inI (key x) 1 m = false := by simpa using hin
      have e1 : inI (key x) (a + 1) m = false := by
        refine inI_f ?_
        by_cases h2 : key x ≤ m
        · left
          by_cases h3 : 1 ≤ key x
          · exact absurd (inI_t h3 h2) hin
          · omega
        · right; omega
      rw [hin', e1]
      simp
theorem chk_ses (l : List CV) : chkR CV.client sesOne none l = sesOk l :=
  chk_ris (p := sesB) (m := 8) (fun _ => rfl) l none 0 (Int.le_refl 0) rfl
theorem chk_ops (l : List OV) : chkR OV.set opsOne none l = opsOk l :=
  chk_ris (p := opnB) (m := 8) (fun _ => rfl) l none 0 (Int.le_refl 0) rfl
theorem size_nil (s : ByteArray) : (s.size : Int) ≤ 0 ↔ s = ⟨#[]⟩ := by
  constructor
  · intro h
    apply ByteArray.ext
    have : s.data.size = 0 := by have h2 : s.size = 0 := by omega
                                 exact h2
    exact Array.eq_empty_of_size_eq_zero this
  · rintro rfl; decide
theorem snR_snB (ver nx : Int) (f : NV) : snR ver nx f = (inI f.id 1 nx && snB ver (tagLim ver) f) := by
  have key : (decide (f.tag.size ≤ 16) && (decide (f.tag = ⟨#[]⟩) || decide (3 ≤ ver))) = decide ((f.tag.size : Int) ≤ tagLim ver) := by
    unfold tagLim
    by_cases h3 : ver < 3
    · rw [if_pos h3, dec_f (show ¬ 3 ≤ ver by omega), Bool.or_false]
      by_cases ht : f.tag = ⟨#[]⟩
      · rw [dec_t ht, dec_t ((size_nil _).2 ht), dec_t (by rw [ht]; decide)]; rfl
      · rw [dec_f ht, dec_f (fun h => ht ((size_nil _).1 h)), Bool.and_false]
    · rw [if_neg h3, dec_t (show 3 ≤ ver by omega), Bool.or_true, Bool.and_true]
      by_cases h : f.tag.size ≤ 16
      · rw [dec_t h, dec_t (by omega)]
      · rw [dec_f h, dec_f (by omega)]
  unfold snR snB
  rw [key]
  rcases rowChB f.ch with _ | _ <;> simp
theorem chk_sns (ver next : Int) (l : List NV) : chkR NV.id (snR ver (next - 1)) none l = (risB NV.id (next - 1) 0 l && l.all (snB ver (tagLim ver))) :=
  chk_ris (p := snB ver (tagLim ver)) (m := next - 1) (fun x => snR_snB ver (next - 1) x) l none 0 (Int.le_refl 0) rfl
theorem quota_eq (q ver : Int) : (inI q 0 64 && (decide (q = 0) || decide (3 ≤ ver))) = inI q 0 (quotaLim ver) := by
  unfold quotaLim
  by_cases h3 : ver < 3
  · rw [if_pos h3, dec_f (show ¬ 3 ≤ ver by omega), Bool.or_false]
    by_cases h : q = 0
    · subst h; rfl
    · rw [dec_f h, Bool.and_false]
      symm
      exact inI_f (by omega)
  · rw [if_neg h3, dec_t (show 3 ≤ ver by omega), Bool.or_true, Bool.and_true]
theorem kmayR_eq (s : KV) (ver nx : Int) (hl : s.sns.length = s.n3) (hnx : IntKind.i64.wrap (s.next - 1) = nx) : kmayR s ver nx = kmay s ver := by
  unfold kmayR kmay
  congr 1
  congr 1
  rw [chk_ses, chk_ops]
  have hn : nbR s ver = (numB s ver && decide (s.n3 ≤ 16)) := by
    unfold nbR numB
    rw [← quota_eq]
    simp [Bool.and_assoc]
  rw [hn]
  by_cases hb : numB s ver = true
  · rw [hb, Bool.true_and, Bool.true_and]
    obtain ⟨_, h2, _, _⟩ := numB_iff.1 hb
    have : nx = s.next - 1 := by rw [← hnx]; exact IntWalk.i64_in _ (by omega)
    rw [this, chk_sns]
    unfold snsB
    rw [hl]
    rcases decide (s.n3 ≤ 16) with _ | _
    · simp
    · simp
  · have : numB s ver = false := by simpa using hb
    rw [this]
    simp
end Go.Proofs.Ytiildgoaiookhaa
