/- An append as one step of a region that draws its order. No program in sight. -/
import Derived.Test.YtcdnjhcddbkciaaBase
namespace Go.Proofs.Ytcdnjhcddbkciaa
open Go.RowKit

theorem step_app {P : Program} {t e : TypeId} {size bytes : Nat} (T : SliceT P t e size bytes) (hsz : 0 < size) (w : World) {ops : Array Oper} {o : Oper} {a : Act} {K : Act → World → Prop} {Q : Exit → Act → World → Prop} {E : Prop}
    (hgd : o.guard = none) {s x : Operand} (ho : o.op = .call { callee := .builtin .append, args := #[s, x], argTypes := #[t, t] })
    {B : Nat} {v : Value} {n : Nat} {xs : List Value} (hs : a.eval s = v) (hown : w.ownsRow B e size v n xs)
    {A : Option Addr} {m c : Nat} {news : List Value} (hx : a.eval x = .slice A m c) (hr : Rd w A m size news) (h1 : ∀ u ∈ news, u.oneCell' = true)
    (h63 : n + m ≤ maxLen) (hbytes : (n + m) * bytes ≤ 140737488355328) (hB : B ≤ w.heap.size)
    (h : ∀ v' w', w'.ownsRow B e size v' (n + m) (xs ++ news) → w.grownBy w' v.ownBlock → (v'.ownBlock = v.ownBlock ∨ v'.ownBlock = some w.heap.size) → K (a.put o.dst v') w') :
    if Region.wanted o (yielded ops a.tmps) = true then Oper.wp P o a w K Q else E := by
  have hw : Region.wanted o (yielded ops a.tmps) = true := by simp [Region.wanted, hgd]
  rw [if_pos hw]
  obtain ⟨i, z, hi, hz, hz1, hz2, hz3⟩ := T.info
  exact wp_append_rd w s x t ho B e i z size bytes T.ht hi hz hz1 hz2 hz3 hsz v n xs hs hown A m c news hx hr h1 h63 hbytes hB h
end Go.Proofs.Ytcdnjhcddbkciaa
