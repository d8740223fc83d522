/-
  No cell of these rows narrows 'for every input' (looked for: loops, veiled, ifaces, maps, wideKeys, modest, calm, conditions, laid).
  DERIVED. THE GIVEN ROWS OF THIS SEAT. 9 by the template 'for every input the law returns true; each argument reads behind the call as it read before'; 0 by the template 'total and deterministic' (their statements: YtcoaofaofmbfbaaTotals.lean).
  GIVEN WITH THE SEED: the statements are not yours to turn. If you find one false, say at which input.
  Laid BY PROGRAM, IN A SANDBOX (cutbox-rows.mjs): the forced cells as the released guide's own fill.sh prints them over the translation fbc97f7a589e548a… (all of the seat's roots in one cut). By AI agents, Wed Nov 11 2026. No macro, syntax, notation, axiom, sorry.
-/
import Derived.Test.YtcoaofaofmbfbaaChecked
import GoSem.Claim
import GoSem.ClaimJoined
import GoSem.ClaimMapViews
import Derived.JoinedTies
import Derived.KernelRfl
namespace Go.Proofs.Ytcoaofaofmbfbaa
/- THE CELL 'sum', in the pinned program and in every row, IS THE sha256 OF THE DUMP (.gsa) THAT YtcoaofaofmbfbaaProg.lean LOADS. Nothing in Lean hashes anything: it is a label: what it is worth is what the hold of that sum in a sandbox is worth. -/
noncomputable def Try.pinned : Pinned := { name := "ytcoaofaofmbfbaa", sum := "fbc97f7a589e548ac8c2a447ad4de25bf81ffef1a4073a66bd444d9f0ed2b846", checked := Try.checked }
namespace Rows
def none {H : Type} : Left H := { results := [], args := [] }

/-- 'coraclelaw16.LetterKinds': WHATEVER THE INPUT: true; the input reads as it did. -/
def letterKindsSpec : ChangeSpec := { name := "letterKinds", fn := fun _ => fun
  | [d1, d2, d3] => { results := [.lit (.bool true)], args := [d1, d2, d3] }
  | _ => none }
def letterKindsRow : OpenClaim := { program := "ytcoaofaofmbfbaa", sum := "fbc97f7a589e548ac8c2a447ad4de25bf81ffef1a4073a66bd444d9f0ed2b846", func := "coracle/coraclelaw16.LetterKinds", spec := "letterKinds", unfollowed := true, recurses := true, apart := false }
def LetterKindsSaid : Prop := letterKindsRow.holds Try.pinned (OpenSpec.ofChange letterKindsSpec)

/-- ITS FALSE NEIGHBOUR: 'it returns false'. Refute it at one input. -/
def letterKindsWrong : ChangeSpec := { name := "letterKinds", fn := fun _ => fun
  | [d1, d2, d3] => { results := [.lit (.bool false)], args := [d1, d2, d3] }
  | _ => none }
def LetterKindsWrongFalsely : Prop := letterKindsRow.holds Try.pinned (OpenSpec.ofChange letterKindsWrong)

/-- 'coraclelaw16.LetterSame': WHATEVER THE INPUT: true; the input reads as it did. -/
def letterSameSpec : ChangeSpec := { name := "letterSame", fn := fun _ => fun
  | [d1, d2] => { results := [.lit (.bool true)], args := [d1, d2] }
  | _ => none }
def letterSameRow : OpenClaim := { program := "ytcoaofaofmbfbaa", sum := "fbc97f7a589e548ac8c2a447ad4de25bf81ffef1a4073a66bd444d9f0ed2b846", func := "coracle/coraclelaw16.LetterSame", spec := "letterSame", unfollowed := true, recurses := true, apart := false }
def LetterSameSaid : Prop := letterSameRow.holds Try.pinned (OpenSpec.ofChange letterSameSpec)

/-- ITS FALSE NEIGHBOUR: 'it returns false'. Refute it at one input. -/
def letterSameWrong : ChangeSpec := { name := "letterSame", fn := fun _ => fun
  | [d1, d2] => { results := [.lit (.bool false)], args := [d1, d2] }
  | _ => none }
def LetterSameWrongFalsely : Prop := letterSameRow.holds Try.pinned (OpenSpec.ofChange letterSameWrong)

/-- 'coraclelaw16.LetterBack': WHATEVER THE INPUT: true; the input reads as it did. -/
def letterBackSpec : ChangeSpec := { name := "letterBack", fn := fun _ => fun
  | [d1, d2, d3] => { results := [.lit (.bool true)], args := [d1, d2, d3] }
  | _ => none }
def letterBackRow : OpenClaim := { program := "ytcoaofaofmbfbaa", sum := "fbc97f7a589e548ac8c2a447ad4de25bf81ffef1a4073a66bd444d9f0ed2b846", func := "coracle/coraclelaw16.LetterBack", spec := "letterBack", unfollowed := true, recurses := true, apart := false }
def LetterBackSaid : Prop := letterBackRow.holds Try.pinned (OpenSpec.ofChange letterBackSpec)

/-- ITS FALSE NEIGHBOUR: 'it returns false'. Refute it at one input. -/
def letterBackWrong : ChangeSpec := { name := "letterBack", fn := fun _ => fun
  | [d1, d2, d3] => { results := [.lit (.bool false)], args := [d1, d2, d3] }
  | _ => none }
def LetterBackWrongFalsely : Prop := letterBackRow.holds Try.pinned (OpenSpec.ofChange letterBackWrong)

/-- 'coraclelaw16.LetterOnce': WHATEVER THE INPUT: true; the input reads as it did. -/
def letterOnceSpec : ChangeSpec := { name := "letterOnce", fn := fun _ => fun
  | [d] => { results := [.lit (.bool true)], args := [d] }
  | _ => none }
def letterOnceRow : OpenClaim := { program := "ytcoaofaofmbfbaa", sum := "fbc97f7a589e548ac8c2a447ad4de25bf81ffef1a4073a66bd444d9f0ed2b846", func := "coracle/coraclelaw16.LetterOnce", spec := "letterOnce", unfollowed := true, recurses := true, apart := false }
def LetterOnceSaid : Prop := letterOnceRow.holds Try.pinned (OpenSpec.ofChange letterOnceSpec)

/-- ITS FALSE NEIGHBOUR: 'it returns false'. Refute it at one input. -/
def letterOnceWrong : ChangeSpec := { name := "letterOnce", fn := fun _ => fun
  | [d] => { results := [.lit (.bool false)], args := [d] }
  | _ => none }
def LetterOnceWrongFalsely : Prop := letterOnceRow.holds Try.pinned (OpenSpec.ofChange letterOnceWrong)

/-- 'coraclelaw16.LetterAll': WHATEVER THE INPUT: true; the input reads as it did. -/
def letterAllSpec : ChangeSpec := { name := "letterAll", fn := fun _ => fun
  | [d1, d2, d3] => { results := [.lit (.bool true)], args := [d1, d2, d3] }
  | _ => none }
def letterAllRow : OpenClaim := { program := "ytcoaofaofmbfbaa", sum := "fbc97f7a589e548ac8c2a447ad4de25bf81ffef1a4073a66bd444d9f0ed2b846", func := "coracle/coraclelaw16.LetterAll", spec := "letterAll", unfollowed := true, recurses := true, apart := false }
def LetterAllSaid : Prop := letterAllRow.holds Try.pinned (OpenSpec.ofChange letterAllSpec)

/-- ITS FALSE NEIGHBOUR: 'it returns false'. Refute it at one input. -/
def letterAllWrong : ChangeSpec := { name := "letterAll", fn := fun _ => fun
  | [d1, d2, d3] => { results := [.lit (.bool false)], args := [d1, d2, d3] }
  | _ => none }
def LetterAllWrongFalsely : Prop := letterAllRow.holds Try.pinned (OpenSpec.ofChange letterAllWrong)

/-- 'coraclelaw21.NetSends': WHATEVER THE INPUT: true; the input reads as it did. -/
def netSendsSpec : ChangeSpec := { name := "netSends", fn := fun _ => fun
  | [d1, d2, d3] => { results := [.lit (.bool true)], args := [d1, d2, d3] }
  | _ => none }
def netSendsRow : OpenClaim := { program := "ytcoaofaofmbfbaa", sum := "fbc97f7a589e548ac8c2a447ad4de25bf81ffef1a4073a66bd444d9f0ed2b846", func := "coracle/coraclelaw21.NetSends", spec := "netSends", inPlace := ["sync/atomic.AddInt64"], unfollowed := true, recurses := true, apart := false }
def NetSendsSaid : Prop := netSendsRow.holds Try.pinned (OpenSpec.ofChange netSendsSpec)

/-- ITS FALSE NEIGHBOUR: 'it returns false'. Refute it at one input. -/
def netSendsWrong : ChangeSpec := { name := "netSends", fn := fun _ => fun
  | [d1, d2, d3] => { results := [.lit (.bool false)], args := [d1, d2, d3] }
  | _ => none }
def NetSendsWrongFalsely : Prop := netSendsRow.holds Try.pinned (OpenSpec.ofChange netSendsWrong)

/-- 'coraclelaw21.NetCounts': WHATEVER THE INPUT: true; the input reads as it did. -/
def netCountsSpec : ChangeSpec := { name := "netCounts", fn := fun _ => fun
  | [d] => { results := [.lit (.bool true)], args := [d] }
  | _ => none }
def netCountsRow : OpenClaim := { program := "ytcoaofaofmbfbaa", sum := "fbc97f7a589e548ac8c2a447ad4de25bf81ffef1a4073a66bd444d9f0ed2b846", func := "coracle/coraclelaw21.NetCounts", spec := "netCounts", inPlace := ["sync/atomic.AddInt64", "sync/atomic.LoadInt64"], unfollowed := true, recurses := true, apart := false }
def NetCountsSaid : Prop := netCountsRow.holds Try.pinned (OpenSpec.ofChange netCountsSpec)

/-- ITS FALSE NEIGHBOUR: 'it returns false'. Refute it at one input. -/
def netCountsWrong : ChangeSpec := { name := "netCounts", fn := fun _ => fun
  | [d] => { results := [.lit (.bool false)], args := [d] }
  | _ => none }
def NetCountsWrongFalsely : Prop := netCountsRow.holds Try.pinned (OpenSpec.ofChange netCountsWrong)

/-- 'coraclelaw21.NetClones': WHATEVER THE INPUT: true; the input reads as it did. -/
def netClonesSpec : ChangeSpec := { name := "netClones", fn := fun _ => fun
  | [d1, d2] => { results := [.lit (.bool true)], args := [d1, d2] }
  | _ => none }
def netClonesRow : OpenClaim := { program := "ytcoaofaofmbfbaa", sum := "fbc97f7a589e548ac8c2a447ad4de25bf81ffef1a4073a66bd444d9f0ed2b846", func := "coracle/coraclelaw21.NetClones", spec := "netClones", inPlace := ["sync/atomic.AddInt64", "sync/atomic.LoadInt64", "sync/atomic.StoreInt64"], unfollowed := true, recurses := true, apart := false }
def NetClonesSaid : Prop := netClonesRow.holds Try.pinned (OpenSpec.ofChange netClonesSpec)

/-- ITS FALSE NEIGHBOUR: 'it returns false'. Refute it at one input. -/
def netClonesWrong : ChangeSpec := { name := "netClones", fn := fun _ => fun
  | [d1, d2] => { results := [.lit (.bool false)], args := [d1, d2] }
  | _ => none }
def NetClonesWrongFalsely : Prop := netClonesRow.holds Try.pinned (OpenSpec.ofChange netClonesWrong)

/-- 'coraclelaw21.NetPlays': WHATEVER THE INPUT: true; the input reads as it did. -/
def netPlaysSpec : ChangeSpec := { name := "netPlays", fn := fun _ => fun
  | [d] => { results := [.lit (.bool true)], args := [d] }
  | _ => none }
def netPlaysRow : OpenClaim := { program := "ytcoaofaofmbfbaa", sum := "fbc97f7a589e548ac8c2a447ad4de25bf81ffef1a4073a66bd444d9f0ed2b846", func := "coracle/coraclelaw21.NetPlays", spec := "netPlays", inPlace := ["sync/atomic.AddInt64", "sync/atomic.LoadInt64", "sync/atomic.StoreInt64"], unfollowed := true, recurses := true, apart := false }
def NetPlaysSaid : Prop := netPlaysRow.holds Try.pinned (OpenSpec.ofChange netPlaysSpec)

/-- ITS FALSE NEIGHBOUR: 'it returns false'. Refute it at one input. -/
def netPlaysWrong : ChangeSpec := { name := "netPlays", fn := fun _ => fun
  | [d] => { results := [.lit (.bool false)], args := [d] }
  | _ => none }
def NetPlaysWrongFalsely : Prop := netPlaysRow.holds Try.pinned (OpenSpec.ofChange netPlaysWrong)

/- THE SECOND FORM. 'bulk': how many values and letters a reading holds, each counted each time it is reached (what is shared counts as often as it is met; a slice's spare places count too). A statement '..UptoSaid' is the law's where the arguments, and the package variables that the reading takes, are together of bulk at most 1048576: NARROWER than '..Said'. Prove '..Said' where nothing that the law and all that it calls make is longer than what came in: it says more and counts as full. Else prove '..UptoSaid'. A law counts once. -/
mutual
def uptoBulk {H : Type} : DataW H → Nat
  | .lit (.string bytes) => bytes.length + 1
  | .lit _ => 1
  | .nil => 1
  | .ptr d => uptoBulk d + 1
  | .slice elems spare => uptoBulkAll elems + uptoBulkAll spare + 1
  | .agg parts => uptoBulkAll parts + 1
  | .iface _ d => uptoBulk d + 1
  | .map entries => uptoBulkEntries entries + 1
  | .held _ => 1
def uptoBulkAll {H : Type} : List (DataW H) → Nat
  | [] => 0
  | d :: r => uptoBulk d + uptoBulkAll r
def uptoBulkEntries {H : Type} : List (Lit × DataW H) → Nat
  | [] => 0
  | x :: r => uptoBulkEntry x + uptoBulkEntries r
def uptoBulkEntry {H : Type} : Lit × DataW H → Nat
  | (.string bytes, d) => bytes.length + uptoBulk d + 1
  | (_, d) => uptoBulk d + 1
 end
def uptoSmall : (H : Type) → List (DataW H) → Bool := fun _ ds => decide (uptoBulkAll ds ≤ 1048576)
def OpenSpec.upto (s : _root_.Go.ChangeSpec) : _root_.Go.OpenSpec := { _root_.Go.OpenSpec.ofChange s with cond := some uptoSmall }

/-- 'coraclelaw16.LetterKinds', WHERE WHAT IT READS IS OF BULK AT MOST 1048576: true; the input reads as it did. -/
def letterKindsUptoRow : OpenClaim := { program := "ytcoaofaofmbfbaa", sum := "fbc97f7a589e548ac8c2a447ad4de25bf81ffef1a4073a66bd444d9f0ed2b846", func := "coracle/coraclelaw16.LetterKinds", spec := "letterKinds", unfollowed := true, recurses := true, apart := false, narrowed := true }
def LetterKindsUptoSaid : Prop := letterKindsUptoRow.holds Try.pinned (OpenSpec.upto letterKindsSpec)

/-- 'coraclelaw16.LetterSame', WHERE WHAT IT READS IS OF BULK AT MOST 1048576: true; the input reads as it did. -/
def letterSameUptoRow : OpenClaim := { program := "ytcoaofaofmbfbaa", sum := "fbc97f7a589e548ac8c2a447ad4de25bf81ffef1a4073a66bd444d9f0ed2b846", func := "coracle/coraclelaw16.LetterSame", spec := "letterSame", unfollowed := true, recurses := true, apart := false, narrowed := true }
def LetterSameUptoSaid : Prop := letterSameUptoRow.holds Try.pinned (OpenSpec.upto letterSameSpec)

/-- 'coraclelaw16.LetterBack', WHERE WHAT IT READS IS OF BULK AT MOST 1048576: true; the input reads as it did. -/
def letterBackUptoRow : OpenClaim := { program := "ytcoaofaofmbfbaa", sum := "fbc97f7a589e548ac8c2a447ad4de25bf81ffef1a4073a66bd444d9f0ed2b846", func := "coracle/coraclelaw16.LetterBack", spec := "letterBack", unfollowed := true, recurses := true, apart := false, narrowed := true }
def LetterBackUptoSaid : Prop := letterBackUptoRow.holds Try.pinned (OpenSpec.upto letterBackSpec)

/-- 'coraclelaw16.LetterOnce', WHERE WHAT IT READS IS OF BULK AT MOST 1048576: true; the input reads as it did. -/
def letterOnceUptoRow : OpenClaim := { program := "ytcoaofaofmbfbaa", sum := "fbc97f7a589e548ac8c2a447ad4de25bf81ffef1a4073a66bd444d9f0ed2b846", func := "coracle/coraclelaw16.LetterOnce", spec := "letterOnce", unfollowed := true, recurses := true, apart := false, narrowed := true }
def LetterOnceUptoSaid : Prop := letterOnceUptoRow.holds Try.pinned (OpenSpec.upto letterOnceSpec)

/-- 'coraclelaw16.LetterAll', WHERE WHAT IT READS IS OF BULK AT MOST 1048576: true; the input reads as it did. -/
def letterAllUptoRow : OpenClaim := { program := "ytcoaofaofmbfbaa", sum := "fbc97f7a589e548ac8c2a447ad4de25bf81ffef1a4073a66bd444d9f0ed2b846", func := "coracle/coraclelaw16.LetterAll", spec := "letterAll", unfollowed := true, recurses := true, apart := false, narrowed := true }
def LetterAllUptoSaid : Prop := letterAllUptoRow.holds Try.pinned (OpenSpec.upto letterAllSpec)

/-- 'coraclelaw21.NetSends', WHERE WHAT IT READS IS OF BULK AT MOST 1048576: true; the input reads as it did. -/
def netSendsUptoRow : OpenClaim := { program := "ytcoaofaofmbfbaa", sum := "fbc97f7a589e548ac8c2a447ad4de25bf81ffef1a4073a66bd444d9f0ed2b846", func := "coracle/coraclelaw21.NetSends", spec := "netSends", inPlace := ["sync/atomic.AddInt64"], unfollowed := true, recurses := true, apart := false, narrowed := true }
def NetSendsUptoSaid : Prop := netSendsUptoRow.holds Try.pinned (OpenSpec.upto netSendsSpec)

/-- 'coraclelaw21.NetCounts', WHERE WHAT IT READS IS OF BULK AT MOST 1048576: true; the input reads as it did. -/
def netCountsUptoRow : OpenClaim := { program := "ytcoaofaofmbfbaa", sum := "fbc97f7a589e548ac8c2a447ad4de25bf81ffef1a4073a66bd444d9f0ed2b846", func := "coracle/coraclelaw21.NetCounts", spec := "netCounts", inPlace := ["sync/atomic.AddInt64", "sync/atomic.LoadInt64"], unfollowed := true, recurses := true, apart := false, narrowed := true }
def NetCountsUptoSaid : Prop := netCountsUptoRow.holds Try.pinned (OpenSpec.upto netCountsSpec)

/-- 'coraclelaw21.NetClones', WHERE WHAT IT READS IS OF BULK AT MOST 1048576: true; the input reads as it did. -/
def netClonesUptoRow : OpenClaim := { program := "ytcoaofaofmbfbaa", sum := "fbc97f7a589e548ac8c2a447ad4de25bf81ffef1a4073a66bd444d9f0ed2b846", func := "coracle/coraclelaw21.NetClones", spec := "netClones", inPlace := ["sync/atomic.AddInt64", "sync/atomic.LoadInt64", "sync/atomic.StoreInt64"], unfollowed := true, recurses := true, apart := false, narrowed := true }
def NetClonesUptoSaid : Prop := netClonesUptoRow.holds Try.pinned (OpenSpec.upto netClonesSpec)

/-- 'coraclelaw21.NetPlays', WHERE WHAT IT READS IS OF BULK AT MOST 1048576: true; the input reads as it did. -/
def netPlaysUptoRow : OpenClaim := { program := "ytcoaofaofmbfbaa", sum := "fbc97f7a589e548ac8c2a447ad4de25bf81ffef1a4073a66bd444d9f0ed2b846", func := "coracle/coraclelaw21.NetPlays", spec := "netPlays", inPlace := ["sync/atomic.AddInt64", "sync/atomic.LoadInt64", "sync/atomic.StoreInt64"], unfollowed := true, recurses := true, apart := false, narrowed := true }
def NetPlaysUptoSaid : Prop := netPlaysUptoRow.holds Try.pinned (OpenSpec.upto netPlaysSpec)

end Rows
end Go.Proofs.Ytcoaofaofmbfbaa
