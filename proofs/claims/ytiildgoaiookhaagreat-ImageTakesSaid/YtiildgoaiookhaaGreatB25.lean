/- Words and walks that the last text of this claim stands on: RgS. No condition. -/
import Derived.Test.YtiildgoaiookhaaGreatB01
import Derived.Deep.RegionHeld
/- A region whose last operation writes what its loads have read: the loads may be taken first. No program in sight. -/
namespace Go.Proofs.YtiildgoaiookhaaGreat
open Go.RowKit

section
variable {P : Program} {l : List Oper} {Q : Exit → Act → World → Prop} {md : Region.Mode} {S : World → Prop}

/-- Whatever order is picked, and S behind each operation but number z. -/
def wpT (P : Program) (md : Region.Mode) (l : List Oper) (Q : Exit → Act → World → Prop) (S : World → Prop) (z : Nat) : Nat → Array Bool → Act → World → Prop
  | 0, listed, a, w => Region.ready md l.toArray listed = [] ∧ Q .normal a w
  | fuel + 1, listed, a, w => (Region.ready md l.toArray listed = [] → Q .normal a w) ∧
    ∀ i ∈ Region.ready md l.toArray listed, wpOp P l.toArray Q i (fun a' w' => (i ≠ z → S w') ∧ wpT P md l Q S z fuel (listed.setIfInBounds i true) a' w') a w
theorem wpT_any {z : Nat} : ∀ (fuel : Nat) (listed : Array Bool) (a : Act) (w : World), wpT P md l Q S z fuel listed a w → wpAny P md l.toArray Q fuel listed a w
  | 0, _, _, _, h => h
  | fuel + 1, _, _, _, h => ⟨h.1, fun i hi => wpOp_mono (fun a' w' q => wpT_any fuel _ a' w' q.2) (h.2 i hi)⟩
/-- what has come up is closed: whatever it waits for has come up too -/
def Clo (md : Region.Mode) (l : List Oper) (listed : Array Bool) : Prop :=
  ∀ j o, l[j]? = some o → listed.getD j true = true → ∀ e ∈ o.after, Region.binds md e = true → listed.getD e.on false = true
theorem Clo.start : Clo md l (Array.replicate l.length false) := fun j o ho h => by
  have hj : j < l.length := (List.getElem?_eq_some_iff.1 ho).1
  simp [Array.getD, hj] at h
theorem Clo.step {listed : Array Bool} {i : Nat} (h : Clo md l listed) (hi : i ∈ Region.ready md l.toArray listed) : Clo md l (listed.setIfInBounds i true) := fun j o ho hj e he hb => by
  by_cases hji : i = j
  · subst hji
    obtain ⟨_, o', ho', hall⟩ := mem_ready.1 hi
    have : o' = o := by
      rw [show l.toArray[i]? = l[i]? by simp, ho] at ho'
      exact (Option.some.inj ho').symm
    subst this
    exact getD_set_true (hall e he hb)
  · rw [getD_set_ne true hji] at hj
    exact getD_set_true (h j o ho hj e he hb)
/-- each operation ahead of the last has a later one that waits for it -/
def leads (md : Region.Mode) (l : List Oper) (z : Nat) : Bool :=
  decide (z < l.length) && (List.range z).all fun j => (List.range (z + 1)).any fun s => decide (j < s) && ((l[s]?).map fun o => o.after.toList.any fun e => Region.binds md e && e.on == j).getD false
theorem Clo.all {listed : Array Bool} {z : Nat} (h : Clo md l listed) (hz : z ∈ Region.ready md l.toArray listed) (hl : leads md l z = true) : ∀ j, j < z → listed.getD j false = true := by
  unfold leads at hl
  simp only [Bool.and_eq_true, decide_eq_true_eq, List.all_eq_true, List.any_eq_true, List.mem_range] at hl
  obtain ⟨hzl, hl⟩ := hl
  have key : ∀ n j, j < z → z - j ≤ n → listed.getD j false = true := by
    intro n
    induction n with
    | zero => intro j h1 h2; omega
    | succ n ih =>
      intro j hj hn
      obtain ⟨s, hs, hjs, hq⟩ := hl j hj
      obtain ⟨o, ho⟩ : ∃ o, l[s]? = some o := ⟨l[s]'(by omega), List.getElem?_eq_getElem (by omega)⟩
      rw [ho] at hq
      simp only [Option.map_some, Option.getD_some, List.any_eq_true, Bool.and_eq_true, beq_iff_eq] at hq
      obtain ⟨e, he0, hb, hon⟩ := hq
      have he : e ∈ o.after := Array.mem_toList_iff.1 he0
      subst hon
      by_cases hsz : s = z
      · subst hsz
        obtain ⟨_, o', ho', hall⟩ := mem_ready.1 hz
        have : o' = o := by
          rw [show l.toArray[s]? = l[s]? by simp, ho] at ho'
          exact (Option.some.inj ho').symm
        subst this
        exact hall e he hb
      · have hs1 := ih s (by omega) (by omega)
        have hs2 : listed.getD s true = true := by
          cases hq : listed[s]? with
          | none => simp [hq]
          | some b => simp [hq] at hs1 ⊢; exact hs1
        exact h s o ho hs2 e he hb
  exact fun j hj => key (z - j) j hj (Nat.le_refl _)
theorem wpT_first {i z : Nat} {oi : Oper} {v : Value} (hi : l.toArray[i]? = some oi) (hsel : ∀ (j : Nat) (o : Oper) cs b, l.toArray[j]? = some o → o.op ≠ .select cs b)
    (hQ : ∀ c a w, Q (.panic c) (a.put oi.dst v) w → Q (.panic c) a w) (hiz : i < z) (hl : leads md l z = true) :
    ∀ (fuel : Nat) (listed : Array Bool) (a : Act) (w : World), Clo md l listed →
      (∀ j oj, l.toArray[j]? = some oj → j ≠ i → listed.getD j true = false → (∀ e ∈ oj.after, Region.binds md e = true → e.on ≠ i) → oi.apart l.toArray oj = true) →
      i ∈ Region.ready md l.toArray listed → YieldsIf P l.toArray S oi v a → S w →
      wpT P md l Q S z fuel (listed.setIfInBounds i true) (a.put oi.dst v) w → wpT P md l Q S z (fuel + 1) listed a w := by
  intro fuel
  induction fuel with
  | zero =>
    intro listed a w _ _ hr hy hS H
    refine ⟨fun h => (by rw [h] at hr; cases hr), fun j hj => ?_⟩
    by_cases hji : j = i
    · rw [hji]; exact hy.wpOp hi hS ⟨fun _ => hS, H⟩
    · have := ready_mono hj hji
      rw [H.1] at this
      cases this
  | succ fuel ih =>
    intro listed a w hC hfree hr hy hS H
    refine ⟨fun h => (by rw [h] at hr; cases hr), fun j hj => ?_⟩
    by_cases hji : j = i
    · rw [hji]; exact hy.wpOp hi hS ⟨fun _ => hS, H⟩
    · have hjz : j ≠ z := fun e => by
        subst e
        have h1 := hC.all hj hl i hiz
        have h2 := (mem_ready.1 hr).1
        cases hq : listed[i]? with
        | none => simp [hq] at h2
        | some b => simp [hq] at h1 h2; rw [h1] at h2; cases h2
      obtain ⟨hjun, oj, hoj, hall⟩ := mem_ready.1 hj
      have hnot : ∀ e ∈ oj.after, Region.binds md e = true → e.on ≠ i := fun e he hb heq => by
        have h1 := hall e he hb
        have h0 := (mem_ready.1 hr).1
        rw [heq] at h1
        cases hq : listed[i]? with
        | none => simp [hq] at h0
        | some b => simp [hq] at h0 h1; rw [h0] at h1; cases h1
      have h2 := wpOp_putIf hoj (hfree j oj hoj hji hjun hnot) (fun cs b => hsel i oi cs b hi) (fun cs b => hsel j oj cs b hoj) hQ hy (H.2 j (ready_mono hj hji))
      refine wpOp_mono (fun a' w' h3 => ⟨h3.2.1, ih (listed.setIfInBounds j true) a' w' (hC.step hj) ?_ (ready_mono hr (Ne.symm hji)) h3.1 (h3.2.1 hjz) ?_⟩) h2
      · intro k ok hk hki hun hno
        refine hfree k ok hk hki ?_ hno
        by_cases hjk : j = k
        · subst hjk; exact hjun
        · rw [getD_set_ne true hjk] at hun; exact hun
      · rw [Array.setIfInBounds_comm _ _ hji]
        exact h3.2.2
/-- a step of the walk: what is to be known is handed on hidden -/
def WT (P : Program) (md : Region.Mode) (l : List Oper) (Q : Exit → Act → World → Prop) (S : World → Prop) (z fuel : Nat) (listed : Array Bool) (a : Act) (w : World) : Prop :=
  Clo md l listed → S w → wpT P md l Q S z fuel listed a w
theorem WT.take {i z : Nat} {oi : Oper} {v : Value} {fuel : Nat} {listed : Array Bool} {a : Act} {w : World} (hi : l[i]? = some oi)
    (hs : Region.noSelect l.toArray = true) (hf : Region.free md l.toArray listed i = true) (hr : (Region.ready md l.toArray listed).contains i = true) (hiz : decide (i < z) = true) (hl : leads md l z = true)
    (hQ : ∀ c a w, Q (.panic c) (a.put oi.dst v) w → Q (.panic c) a w) (hy : YieldsIf P l.toArray S oi v a)
    (h : WT P md l Q S z fuel (listed.setIfInBounds i true) (a.put oi.dst v) w) : WT P md l Q S z (fuel + 1) listed a w := fun hC hS =>
  wpT_first (by simpa using hi) (Region.noSelect_spec hs) hQ (of_decide_eq_true hiz) hl fuel listed a w hC (Region.free_spec (by simpa using hi) hf) (by simpa using hr) hy hS (h (hC.step (by simpa using hr)) hS)
theorem WT.start {id z n : Nat} {a : Act} {w : World} (hn : l.length = n) (S : World → Prop) (hm : P.follows .mixedOrders = true) (hS : S w.drew) (h : WT P .any l Q S z n (List.replicate n false).toArray a w.drew) : (Code.region id l.toArray true).wp P Q a w :=
  wp_region_any hm (by
    subst hn
    have := wpT_any _ _ _ _ (h (by simpa using Clo.start) hS)
    simpa using this)
/-- each of those that may come up -/
def RTz (P : Program) (md : Region.Mode) (l : List Oper) (Q : Exit → Act → World → Prop) (S : World → Prop) (z fuel : Nat) (listed : Array Bool) (a : Act) (w : World) (rs : List Nat) : Prop :=
  ∀ i ∈ rs, wpOp P l.toArray Q i (fun a' w' => (i ≠ z → S w') ∧ (Clo md l (listed.setIfInBounds i true) → wpT P md l Q S z fuel (listed.setIfInBounds i true) a' w')) a w
theorem RTz.nil {z fuel : Nat} {listed : Array Bool} {a : Act} {w : World} : RTz P md l Q S z fuel listed a w [] := fun _ h => by cases h
theorem RTz.cons {z fuel : Nat} {listed : Array Bool} {a : Act} {w : World} {i : Nat} {o : Oper} {rs : List Nat} (ho : l[i]? = some o) (hz : (i == z) = false)
    (h : ∀ K' : Act → World → Prop, Hid (∀ a w, S w → WT P md l Q S z fuel (listed.setIfInBounds i true) a w → K' a w) → if Region.wanted o (yielded l.toArray a.tmps) = true then Oper.wp P o a w K' Q else K' (a.put o.dst undef) w)
    (hs : RTz P md l Q S z fuel listed a w rs) : RTz P md l Q S z fuel listed a w (i :: rs) := fun j hj => by
  rcases List.mem_cons.1 hj with rfl | hj
  · exact wpOp_step (by simpa using ho) (fun K' hK => h K' (Lib.hid fun a w hS hW => hK a w ⟨fun _ => hS, fun hC => hW hC hS⟩))
  · exact hs j hj
theorem WT.ready {rs : List Nat} {z fuel : Nat} {listed : Array Bool} {a : Act} {w : World} (hr : Region.ready md l.toArray listed = rs) (hne : rs ≠ [])
    (h : RTz P md l Q S z fuel listed a w rs) : WT P md l Q S z (fuel + 1) listed a w := fun hC _ =>
  ⟨fun h0 => absurd (hr ▸ h0) hne, fun i hi => wpOp_mono (fun _ _ q => ⟨q.1, q.2 (hC.step hi)⟩) (h i (hr ▸ hi))⟩
/-- the last operation -/
theorem WT.last {z fuel : Nat} {listed : Array Bool} {a : Act} {w : World} {o : Oper} (ho : l[z]? = some o) (hr : Region.ready md l.toArray listed = [z]) (hr' : Region.ready md l.toArray (listed.setIfInBounds z true) = [])
    (h : ∀ K' : Act → World → Prop, Hid (∀ a w, Q .normal a w → K' a w) → if Region.wanted o (yielded l.toArray a.tmps) = true then Oper.wp P o a w K' Q else K' (a.put o.dst undef) w) : WT P md l Q S z (fuel + 1) listed a w := fun hC _ =>
  ⟨fun h0 => (by rw [hr] at h0; cases h0), fun i hi => by
    rw [hr] at hi
    simp only [List.mem_singleton] at hi
    subst hi
    refine wpOp_step (by simpa using ho) (fun K' hK => h K' (Lib.hid fun a w hq => hK a w ⟨fun hn => absurd rfl hn, ?_⟩))
    cases fuel with
    | zero => exact ⟨hr', hq⟩
    | succ fuel => exact ⟨fun _ => hq, by rw [hr']; simp⟩⟩
end
end Go.Proofs.YtiildgoaiookhaaGreat
