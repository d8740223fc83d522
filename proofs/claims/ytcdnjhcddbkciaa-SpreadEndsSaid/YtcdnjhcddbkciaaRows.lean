/-
  No cell of these rows narrows 'for every input' (looked for: loops, veiled, ifaces, maps, wideKeys, modest, calm, conditions, laid).
  DERIVED. THE GIVEN ROWS OF THIS SEAT. 16 by the template 'for every input the law returns true; each argument reads behind the call as it read before'; 0 by the template 'total and deterministic' (their statements: YtcdnjhcddbkciaaTotals.lean).
  GIVEN WITH THE SEED: the statements are not yours to turn. If you find one false, say at which input.
  Laid BY PROGRAM, IN A SANDBOX (cutbox-rows.mjs): the forced cells as the released guide's own fill.sh prints them over the translation 0bc9a1502b14399b… (all of the seat's roots in one cut). By AI agents, Wed Nov 11 2026. No macro, syntax, notation, axiom, sorry.
-/
import Derived.Test.YtcdnjhcddbkciaaChecked
import GoSem.Claim
import GoSem.ClaimJoined
import GoSem.ClaimMapViews
import Derived.JoinedTies
import Derived.KernelRfl
namespace Go.Proofs.Ytcdnjhcddbkciaa
/- THE CELL 'sum', in the pinned program and in every row, IS THE sha256 OF THE DUMP (.gsa) THAT YtcdnjhcddbkciaaProg.lean LOADS. Nothing in Lean hashes anything: it is a label: what it is worth is what the hold of that sum in a sandbox is worth. -/
noncomputable def Try.pinned : Pinned := { name := "ytcdnjhcddbkciaa", sum := "0bc9a1502b14399b1204abf8faf05160a546c0cb4e075a5a0d6d3219292e132e", checked := Try.checked }
namespace Rows
def none {H : Type} : Left H := { results := [], args := [] }

/-- 'coraclelaw17.LogsMajor': WHATEVER THE INPUT: true; the input reads as it did. -/
def logsMajorSpec : ChangeSpec := { name := "logsMajor", fn := fun _ => fun
  | [d1, d2] => { results := [.lit (.bool true)], args := [d1, d2] }
  | _ => none }
def logsMajorRow : OpenClaim := { program := "ytcdnjhcddbkciaa", sum := "0bc9a1502b14399b1204abf8faf05160a546c0cb4e075a5a0d6d3219292e132e", func := "coracle/coraclelaw17.LogsMajor", spec := "logsMajor", unfollowed := true, recurses := true, apart := false }
def LogsMajorSaid : Prop := logsMajorRow.holds Try.pinned (OpenSpec.ofChange logsMajorSpec)

/-- ITS FALSE NEIGHBOUR: 'it returns false'. Refute it at one input. -/
def logsMajorWrong : ChangeSpec := { name := "logsMajor", fn := fun _ => fun
  | [d1, d2] => { results := [.lit (.bool false)], args := [d1, d2] }
  | _ => none }
def LogsMajorWrongFalsely : Prop := logsMajorRow.holds Try.pinned (OpenSpec.ofChange logsMajorWrong)

/-- 'coraclelaw17.LogsBehind': WHATEVER THE INPUT: true; the input reads as it did. -/
def logsBehindSpec : ChangeSpec := { name := "logsBehind", fn := fun _ => fun
  | [d1, d2, d3] => { results := [.lit (.bool true)], args := [d1, d2, d3] }
  | _ => none }
def logsBehindRow : OpenClaim := { program := "ytcdnjhcddbkciaa", sum := "0bc9a1502b14399b1204abf8faf05160a546c0cb4e075a5a0d6d3219292e132e", func := "coracle/coraclelaw17.LogsBehind", spec := "logsBehind", unfollowed := true, recurses := true, apart := false }
def LogsBehindSaid : Prop := logsBehindRow.holds Try.pinned (OpenSpec.ofChange logsBehindSpec)

/-- ITS FALSE NEIGHBOUR: 'it returns false'. Refute it at one input. -/
def logsBehindWrong : ChangeSpec := { name := "logsBehind", fn := fun _ => fun
  | [d1, d2, d3] => { results := [.lit (.bool false)], args := [d1, d2, d3] }
  | _ => none }
def LogsBehindWrongFalsely : Prop := logsBehindRow.holds Try.pinned (OpenSpec.ofChange logsBehindWrong)

/-- 'coraclelaw17.LogsTerms': WHATEVER THE INPUT: true; the input reads as it did. -/
def logsTermsSpec : ChangeSpec := { name := "logsTerms", fn := fun _ => fun
  | [d1, d2, d3] => { results := [.lit (.bool true)], args := [d1, d2, d3] }
  | _ => none }
def logsTermsRow : OpenClaim := { program := "ytcdnjhcddbkciaa", sum := "0bc9a1502b14399b1204abf8faf05160a546c0cb4e075a5a0d6d3219292e132e", func := "coracle/coraclelaw17.LogsTerms", spec := "logsTerms", unfollowed := true, recurses := true, apart := false }
def LogsTermsSaid : Prop := logsTermsRow.holds Try.pinned (OpenSpec.ofChange logsTermsSpec)

/-- ITS FALSE NEIGHBOUR: 'it returns false'. Refute it at one input. -/
def logsTermsWrong : ChangeSpec := { name := "logsTerms", fn := fun _ => fun
  | [d1, d2, d3] => { results := [.lit (.bool false)], args := [d1, d2, d3] }
  | _ => none }
def LogsTermsWrongFalsely : Prop := logsTermsRow.holds Try.pinned (OpenSpec.ofChange logsTermsWrong)

/-- 'coraclelaw17.LogsFresh': WHATEVER THE INPUT: true; the input reads as it did. -/
def logsFreshSpec : ChangeSpec := { name := "logsFresh", fn := fun _ => fun
  | [d1, d2, d3] => { results := [.lit (.bool true)], args := [d1, d2, d3] }
  | _ => none }
def logsFreshRow : OpenClaim := { program := "ytcdnjhcddbkciaa", sum := "0bc9a1502b14399b1204abf8faf05160a546c0cb4e075a5a0d6d3219292e132e", func := "coracle/coraclelaw17.LogsFresh", spec := "logsFresh", unfollowed := true, recurses := true, apart := false }
def LogsFreshSaid : Prop := logsFreshRow.holds Try.pinned (OpenSpec.ofChange logsFreshSpec)

/-- ITS FALSE NEIGHBOUR: 'it returns false'. Refute it at one input. -/
def logsFreshWrong : ChangeSpec := { name := "logsFresh", fn := fun _ => fun
  | [d1, d2, d3] => { results := [.lit (.bool false)], args := [d1, d2, d3] }
  | _ => none }
def LogsFreshWrongFalsely : Prop := logsFreshRow.holds Try.pinned (OpenSpec.ofChange logsFreshWrong)

/-- 'coraclelaw17.LogsMerge': WHATEVER THE INPUT: true; the input reads as it did. -/
def logsMergeSpec : ChangeSpec := { name := "logsMerge", fn := fun _ => fun
  | [d1, d2, d3] => { results := [.lit (.bool true)], args := [d1, d2, d3] }
  | _ => none }
def logsMergeRow : OpenClaim := { program := "ytcdnjhcddbkciaa", sum := "0bc9a1502b14399b1204abf8faf05160a546c0cb4e075a5a0d6d3219292e132e", func := "coracle/coraclelaw17.LogsMerge", spec := "logsMerge", unfollowed := true, recurses := true, apart := false }
def LogsMergeSaid : Prop := logsMergeRow.holds Try.pinned (OpenSpec.ofChange logsMergeSpec)

/-- ITS FALSE NEIGHBOUR: 'it returns false'. Refute it at one input. -/
def logsMergeWrong : ChangeSpec := { name := "logsMerge", fn := fun _ => fun
  | [d1, d2, d3] => { results := [.lit (.bool false)], args := [d1, d2, d3] }
  | _ => none }
def LogsMergeWrongFalsely : Prop := logsMergeRow.holds Try.pinned (OpenSpec.ofChange logsMergeWrong)

/-- 'coraclelaw17.LogsAll': WHATEVER THE INPUT: true; the input reads as it did. -/
def logsAllSpec : ChangeSpec := { name := "logsAll", fn := fun _ => fun
  | [d1, d2, d3] => { results := [.lit (.bool true)], args := [d1, d2, d3] }
  | _ => none }
def logsAllRow : OpenClaim := { program := "ytcdnjhcddbkciaa", sum := "0bc9a1502b14399b1204abf8faf05160a546c0cb4e075a5a0d6d3219292e132e", func := "coracle/coraclelaw17.LogsAll", spec := "logsAll", unfollowed := true, recurses := true, apart := false }
def LogsAllSaid : Prop := logsAllRow.holds Try.pinned (OpenSpec.ofChange logsAllSpec)

/-- ITS FALSE NEIGHBOUR: 'it returns false'. Refute it at one input. -/
def logsAllWrong : ChangeSpec := { name := "logsAll", fn := fun _ => fun
  | [d1, d2, d3] => { results := [.lit (.bool false)], args := [d1, d2, d3] }
  | _ => none }
def LogsAllWrongFalsely : Prop := logsAllRow.holds Try.pinned (OpenSpec.ofChange logsAllWrong)

/-- 'coraclelaw18.ElectFits': WHATEVER THE INPUT: true; the input reads as it did. -/
def electFitsSpec : ChangeSpec := { name := "electFits", fn := fun _ => fun
  | [d1, d2] => { results := [.lit (.bool true)], args := [d1, d2] }
  | _ => none }
def electFitsRow : OpenClaim := { program := "ytcdnjhcddbkciaa", sum := "0bc9a1502b14399b1204abf8faf05160a546c0cb4e075a5a0d6d3219292e132e", func := "coracle/coraclelaw18.ElectFits", spec := "electFits", unfollowed := true, recurses := true, apart := false }
def ElectFitsSaid : Prop := electFitsRow.holds Try.pinned (OpenSpec.ofChange electFitsSpec)

/-- ITS FALSE NEIGHBOUR: 'it returns false'. Refute it at one input. -/
def electFitsWrong : ChangeSpec := { name := "electFits", fn := fun _ => fun
  | [d1, d2] => { results := [.lit (.bool false)], args := [d1, d2] }
  | _ => none }
def ElectFitsWrongFalsely : Prop := electFitsRow.holds Try.pinned (OpenSpec.ofChange electFitsWrong)

/-- 'coraclelaw18.ElectOnce': WHATEVER THE INPUT: true; the input reads as it did. -/
def electOnceSpec : ChangeSpec := { name := "electOnce", fn := fun _ => fun
  | [d1, d2, d3] => { results := [.lit (.bool true)], args := [d1, d2, d3] }
  | _ => none }
def electOnceRow : OpenClaim := { program := "ytcdnjhcddbkciaa", sum := "0bc9a1502b14399b1204abf8faf05160a546c0cb4e075a5a0d6d3219292e132e", func := "coracle/coraclelaw18.ElectOnce", spec := "electOnce", unfollowed := true, recurses := true, apart := false }
def ElectOnceSaid : Prop := electOnceRow.holds Try.pinned (OpenSpec.ofChange electOnceSpec)

/-- ITS FALSE NEIGHBOUR: 'it returns false'. Refute it at one input. -/
def electOnceWrong : ChangeSpec := { name := "electOnce", fn := fun _ => fun
  | [d1, d2, d3] => { results := [.lit (.bool false)], args := [d1, d2, d3] }
  | _ => none }
def ElectOnceWrongFalsely : Prop := electOnceRow.holds Try.pinned (OpenSpec.ofChange electOnceWrong)

/-- 'coraclelaw18.ElectWins': WHATEVER THE INPUT: true; the input reads as it did. -/
def electWinsSpec : ChangeSpec := { name := "electWins", fn := fun _ => fun
  | [d1, d2, d3] => { results := [.lit (.bool true)], args := [d1, d2, d3] }
  | _ => none }
def electWinsRow : OpenClaim := { program := "ytcdnjhcddbkciaa", sum := "0bc9a1502b14399b1204abf8faf05160a546c0cb4e075a5a0d6d3219292e132e", func := "coracle/coraclelaw18.ElectWins", spec := "electWins", unfollowed := true, recurses := true, apart := false }
def ElectWinsSaid : Prop := electWinsRow.holds Try.pinned (OpenSpec.ofChange electWinsSpec)

/-- ITS FALSE NEIGHBOUR: 'it returns false'. Refute it at one input. -/
def electWinsWrong : ChangeSpec := { name := "electWins", fn := fun _ => fun
  | [d1, d2, d3] => { results := [.lit (.bool false)], args := [d1, d2, d3] }
  | _ => none }
def ElectWinsWrongFalsely : Prop := electWinsRow.holds Try.pinned (OpenSpec.ofChange electWinsWrong)

/-- 'coraclelaw18.ElectFresh': WHATEVER THE INPUT: true; the input reads as it did. -/
def electFreshSpec : ChangeSpec := { name := "electFresh", fn := fun _ => fun
  | [d1, d2] => { results := [.lit (.bool true)], args := [d1, d2] }
  | _ => none }
def electFreshRow : OpenClaim := { program := "ytcdnjhcddbkciaa", sum := "0bc9a1502b14399b1204abf8faf05160a546c0cb4e075a5a0d6d3219292e132e", func := "coracle/coraclelaw18.ElectFresh", spec := "electFresh", unfollowed := true, recurses := true, apart := false }
def ElectFreshSaid : Prop := electFreshRow.holds Try.pinned (OpenSpec.ofChange electFreshSpec)

/-- ITS FALSE NEIGHBOUR: 'it returns false'. Refute it at one input. -/
def electFreshWrong : ChangeSpec := { name := "electFresh", fn := fun _ => fun
  | [d1, d2] => { results := [.lit (.bool false)], args := [d1, d2] }
  | _ => none }
def ElectFreshWrongFalsely : Prop := electFreshRow.holds Try.pinned (OpenSpec.ofChange electFreshWrong)

/-- 'coraclelaw18.ElectAll': WHATEVER THE INPUT: true; the input reads as it did. -/
def electAllSpec : ChangeSpec := { name := "electAll", fn := fun _ => fun
  | [d1, d2, d3] => { results := [.lit (.bool true)], args := [d1, d2, d3] }
  | _ => none }
def electAllRow : OpenClaim := { program := "ytcdnjhcddbkciaa", sum := "0bc9a1502b14399b1204abf8faf05160a546c0cb4e075a5a0d6d3219292e132e", func := "coracle/coraclelaw18.ElectAll", spec := "electAll", unfollowed := true, recurses := true, apart := false }
def ElectAllSaid : Prop := electAllRow.holds Try.pinned (OpenSpec.ofChange electAllSpec)

/-- ITS FALSE NEIGHBOUR: 'it returns false'. Refute it at one input. -/
def electAllWrong : ChangeSpec := { name := "electAll", fn := fun _ => fun
  | [d1, d2, d3] => { results := [.lit (.bool false)], args := [d1, d2, d3] }
  | _ => none }
def ElectAllWrongFalsely : Prop := electAllRow.holds Try.pinned (OpenSpec.ofChange electAllWrong)

/-- 'coraclelaw18.ElectStands': WHATEVER THE INPUT: true; the input reads as it did. -/
def electStandsSpec : ChangeSpec := { name := "electStands", fn := fun _ => fun
  | [d1, d2, d3] => { results := [.lit (.bool true)], args := [d1, d2, d3] }
  | _ => none }
def electStandsRow : OpenClaim := { program := "ytcdnjhcddbkciaa", sum := "0bc9a1502b14399b1204abf8faf05160a546c0cb4e075a5a0d6d3219292e132e", func := "coracle/coraclelaw18.ElectStands", spec := "electStands", unfollowed := true, recurses := true, apart := false }
def ElectStandsSaid : Prop := electStandsRow.holds Try.pinned (OpenSpec.ofChange electStandsSpec)

/-- ITS FALSE NEIGHBOUR: 'it returns false'. Refute it at one input. -/
def electStandsWrong : ChangeSpec := { name := "electStands", fn := fun _ => fun
  | [d1, d2, d3] => { results := [.lit (.bool false)], args := [d1, d2, d3] }
  | _ => none }
def ElectStandsWrongFalsely : Prop := electStandsRow.holds Try.pinned (OpenSpec.ofChange electStandsWrong)

/-- 'coraclelaw19.SpreadFits': WHATEVER THE INPUT: true; the input reads as it did. -/
def spreadFitsSpec : ChangeSpec := { name := "spreadFits", fn := fun _ => fun
  | [d1, d2] => { results := [.lit (.bool true)], args := [d1, d2] }
  | _ => none }
def spreadFitsRow : OpenClaim := { program := "ytcdnjhcddbkciaa", sum := "0bc9a1502b14399b1204abf8faf05160a546c0cb4e075a5a0d6d3219292e132e", func := "coracle/coraclelaw19.SpreadFits", spec := "spreadFits", unfollowed := true, recurses := true, apart := false }
def SpreadFitsSaid : Prop := spreadFitsRow.holds Try.pinned (OpenSpec.ofChange spreadFitsSpec)

/-- ITS FALSE NEIGHBOUR: 'it returns false'. Refute it at one input. -/
def spreadFitsWrong : ChangeSpec := { name := "spreadFits", fn := fun _ => fun
  | [d1, d2] => { results := [.lit (.bool false)], args := [d1, d2] }
  | _ => none }
def SpreadFitsWrongFalsely : Prop := spreadFitsRow.holds Try.pinned (OpenSpec.ofChange spreadFitsWrong)

/-- 'coraclelaw19.SpreadLater': WHATEVER THE INPUT: true; the input reads as it did. -/
def spreadLaterSpec : ChangeSpec := { name := "spreadLater", fn := fun _ => fun
  | [d1, d2, d3] => { results := [.lit (.bool true)], args := [d1, d2, d3] }
  | _ => none }
def spreadLaterRow : OpenClaim := { program := "ytcdnjhcddbkciaa", sum := "0bc9a1502b14399b1204abf8faf05160a546c0cb4e075a5a0d6d3219292e132e", func := "coracle/coraclelaw19.SpreadLater", spec := "spreadLater", unfollowed := true, recurses := true, apart := false }
def SpreadLaterSaid : Prop := spreadLaterRow.holds Try.pinned (OpenSpec.ofChange spreadLaterSpec)

/-- ITS FALSE NEIGHBOUR: 'it returns false'. Refute it at one input. -/
def spreadLaterWrong : ChangeSpec := { name := "spreadLater", fn := fun _ => fun
  | [d1, d2, d3] => { results := [.lit (.bool false)], args := [d1, d2, d3] }
  | _ => none }
def SpreadLaterWrongFalsely : Prop := spreadLaterRow.holds Try.pinned (OpenSpec.ofChange spreadLaterWrong)

/-- 'coraclelaw19.SpreadMakes': WHATEVER THE INPUT: true; the input reads as it did. -/
def spreadMakesSpec : ChangeSpec := { name := "spreadMakes", fn := fun _ => fun
  | [d1, d2, d3] => { results := [.lit (.bool true)], args := [d1, d2, d3] }
  | _ => none }
def spreadMakesRow : OpenClaim := { program := "ytcdnjhcddbkciaa", sum := "0bc9a1502b14399b1204abf8faf05160a546c0cb4e075a5a0d6d3219292e132e", func := "coracle/coraclelaw19.SpreadMakes", spec := "spreadMakes", unfollowed := true, recurses := true, apart := false }
def SpreadMakesSaid : Prop := spreadMakesRow.holds Try.pinned (OpenSpec.ofChange spreadMakesSpec)

/-- ITS FALSE NEIGHBOUR: 'it returns false'. Refute it at one input. -/
def spreadMakesWrong : ChangeSpec := { name := "spreadMakes", fn := fun _ => fun
  | [d1, d2, d3] => { results := [.lit (.bool false)], args := [d1, d2, d3] }
  | _ => none }
def SpreadMakesWrongFalsely : Prop := spreadMakesRow.holds Try.pinned (OpenSpec.ofChange spreadMakesWrong)

/-- 'coraclelaw19.SpreadEnds': WHATEVER THE INPUT: true; the input reads as it did. -/
def spreadEndsSpec : ChangeSpec := { name := "spreadEnds", fn := fun _ => fun
  | [d1, d2, d3] => { results := [.lit (.bool true)], args := [d1, d2, d3] }
  | _ => none }
def spreadEndsRow : OpenClaim := { program := "ytcdnjhcddbkciaa", sum := "0bc9a1502b14399b1204abf8faf05160a546c0cb4e075a5a0d6d3219292e132e", func := "coracle/coraclelaw19.SpreadEnds", spec := "spreadEnds", unfollowed := true, recurses := true, apart := false }
def SpreadEndsSaid : Prop := spreadEndsRow.holds Try.pinned (OpenSpec.ofChange spreadEndsSpec)

/-- ITS FALSE NEIGHBOUR: 'it returns false'. Refute it at one input. -/
def spreadEndsWrong : ChangeSpec := { name := "spreadEnds", fn := fun _ => fun
  | [d1, d2, d3] => { results := [.lit (.bool false)], args := [d1, d2, d3] }
  | _ => none }
def SpreadEndsWrongFalsely : Prop := spreadEndsRow.holds Try.pinned (OpenSpec.ofChange spreadEndsWrong)

/- THE SECOND FORM. 'bulk': how many values and letters a reading holds, each counted each time it is reached (what is shared counts as often as it is met; a slice's spare places count too). A statement '..UptoSaid' is the law's where the arguments, and the package variables that the reading takes, are together of bulk at most 1048576: NARROWER than '..Said'. Prove '..Said' where nothing that the law and all that it calls make is longer than what came in: it says more and counts as full. Else prove '..UptoSaid'. A law counts once. -/
mutual
def uptoBulk {H : Type} : DataW H → Nat
  | .lit (.string bytes) => bytes.length + 1
  | .lit _ => 1
  | .nil => 1
  | .ptr d => uptoBulk d + 1
  | .slice elems spare => uptoBulkAll elems + uptoBulkAll spare + 1
  | .agg parts => uptoBulkAll parts + 1
  | .iface _ d => uptoBulk d + 1
  | .map entries => uptoBulkEntries entries + 1
  | .held _ => 1
def uptoBulkAll {H : Type} : List (DataW H) → Nat
  | [] => 0
  | d :: r => uptoBulk d + uptoBulkAll r
def uptoBulkEntries {H : Type} : List (Lit × DataW H) → Nat
  | [] => 0
  | x :: r => uptoBulkEntry x + uptoBulkEntries r
def uptoBulkEntry {H : Type} : Lit × DataW H → Nat
  | (.string bytes, d) => bytes.length + uptoBulk d + 1
  | (_, d) => uptoBulk d + 1
 end
def uptoSmall : (H : Type) → List (DataW H) → Bool := fun _ ds => decide (uptoBulkAll ds ≤ 1048576)
def OpenSpec.upto (s : _root_.Go.ChangeSpec) : _root_.Go.OpenSpec := { _root_.Go.OpenSpec.ofChange s with cond := some uptoSmall }

/-- 'coraclelaw17.LogsMajor', WHERE WHAT IT READS IS OF BULK AT MOST 1048576: true; the input reads as it did. -/
def logsMajorUptoRow : OpenClaim := { program := "ytcdnjhcddbkciaa", sum := "0bc9a1502b14399b1204abf8faf05160a546c0cb4e075a5a0d6d3219292e132e", func := "coracle/coraclelaw17.LogsMajor", spec := "logsMajor", unfollowed := true, recurses := true, apart := false, narrowed := true }
def LogsMajorUptoSaid : Prop := logsMajorUptoRow.holds Try.pinned (OpenSpec.upto logsMajorSpec)

/-- 'coraclelaw17.LogsBehind', WHERE WHAT IT READS IS OF BULK AT MOST 1048576: true; the input reads as it did. -/
def logsBehindUptoRow : OpenClaim := { program := "ytcdnjhcddbkciaa", sum := "0bc9a1502b14399b1204abf8faf05160a546c0cb4e075a5a0d6d3219292e132e", func := "coracle/coraclelaw17.LogsBehind", spec := "logsBehind", unfollowed := true, recurses := true, apart := false, narrowed := true }
def LogsBehindUptoSaid : Prop := logsBehindUptoRow.holds Try.pinned (OpenSpec.upto logsBehindSpec)

/-- 'coraclelaw17.LogsTerms', WHERE WHAT IT READS IS OF BULK AT MOST 1048576: true; the input reads as it did. -/
def logsTermsUptoRow : OpenClaim := { program := "ytcdnjhcddbkciaa", sum := "0bc9a1502b14399b1204abf8faf05160a546c0cb4e075a5a0d6d3219292e132e", func := "coracle/coraclelaw17.LogsTerms", spec := "logsTerms", unfollowed := true, recurses := true, apart := false, narrowed := true }
def LogsTermsUptoSaid : Prop := logsTermsUptoRow.holds Try.pinned (OpenSpec.upto logsTermsSpec)

/-- 'coraclelaw17.LogsFresh', WHERE WHAT IT READS IS OF BULK AT MOST 1048576: true; the input reads as it did. -/
def logsFreshUptoRow : OpenClaim := { program := "ytcdnjhcddbkciaa", sum := "0bc9a1502b14399b1204abf8faf05160a546c0cb4e075a5a0d6d3219292e132e", func := "coracle/coraclelaw17.LogsFresh", spec := "logsFresh", unfollowed := true, recurses := true, apart := false, narrowed := true }
def LogsFreshUptoSaid : Prop := logsFreshUptoRow.holds Try.pinned (OpenSpec.upto logsFreshSpec)

/-- 'coraclelaw17.LogsMerge', WHERE WHAT IT READS IS OF BULK AT MOST 1048576: true; the input reads as it did. -/
def logsMergeUptoRow : OpenClaim := { program := "ytcdnjhcddbkciaa", sum := "0bc9a1502b14399b1204abf8faf05160a546c0cb4e075a5a0d6d3219292e132e", func := "coracle/coraclelaw17.LogsMerge", spec := "logsMerge", unfollowed := true, recurses := true, apart := false, narrowed := true }
def LogsMergeUptoSaid : Prop := logsMergeUptoRow.holds Try.pinned (OpenSpec.upto logsMergeSpec)

/-- 'coraclelaw17.LogsAll', WHERE WHAT IT READS IS OF BULK AT MOST 1048576: true; the input reads as it did. -/
def logsAllUptoRow : OpenClaim := { program := "ytcdnjhcddbkciaa", sum := "0bc9a1502b14399b1204abf8faf05160a546c0cb4e075a5a0d6d3219292e132e", func := "coracle/coraclelaw17.LogsAll", spec := "logsAll", unfollowed := true, recurses := true, apart := false, narrowed := true }
def LogsAllUptoSaid : Prop := logsAllUptoRow.holds Try.pinned (OpenSpec.upto logsAllSpec)

/-- 'coraclelaw18.ElectFits', WHERE WHAT IT READS IS OF BULK AT MOST 1048576: true; the input reads as it did. -/
def electFitsUptoRow : OpenClaim := { program := "ytcdnjhcddbkciaa", sum := "0bc9a1502b14399b1204abf8faf05160a546c0cb4e075a5a0d6d3219292e132e", func := "coracle/coraclelaw18.ElectFits", spec := "electFits", unfollowed := true, recurses := true, apart := false, narrowed := true }
def ElectFitsUptoSaid : Prop := electFitsUptoRow.holds Try.pinned (OpenSpec.upto electFitsSpec)

/-- 'coraclelaw18.ElectOnce', WHERE WHAT IT READS IS OF BULK AT MOST 1048576: true; the input reads as it did. -/
def electOnceUptoRow : OpenClaim := { program := "ytcdnjhcddbkciaa", sum := "0bc9a1502b14399b1204abf8faf05160a546c0cb4e075a5a0d6d3219292e132e", func := "coracle/coraclelaw18.ElectOnce", spec := "electOnce", unfollowed := true, recurses := true, apart := false, narrowed := true }
def ElectOnceUptoSaid : Prop := electOnceUptoRow.holds Try.pinned (OpenSpec.upto electOnceSpec)

/-- 'coraclelaw18.ElectWins', WHERE WHAT IT READS IS OF BULK AT MOST 1048576: true; the input reads as it did. -/
def electWinsUptoRow : OpenClaim := { program := "ytcdnjhcddbkciaa", sum := "0bc9a1502b14399b1204abf8faf05160a546c0cb4e075a5a0d6d3219292e132e", func := "coracle/coraclelaw18.ElectWins", spec := "electWins", unfollowed := true, recurses := true, apart := false, narrowed := true }
def ElectWinsUptoSaid : Prop := electWinsUptoRow.holds Try.pinned (OpenSpec.upto electWinsSpec)

/-- 'coraclelaw18.ElectFresh', WHERE WHAT IT READS IS OF BULK AT MOST 1048576: true; the input reads as it did. -/
def electFreshUptoRow : OpenClaim := { program := "ytcdnjhcddbkciaa", sum := "0bc9a1502b14399b1204abf8faf05160a546c0cb4e075a5a0d6d3219292e132e", func := "coracle/coraclelaw18.ElectFresh", spec := "electFresh", unfollowed := true, recurses := true, apart := false, narrowed := true }
def ElectFreshUptoSaid : Prop := electFreshUptoRow.holds Try.pinned (OpenSpec.upto electFreshSpec)

/-- 'coraclelaw18.ElectAll', WHERE WHAT IT READS IS OF BULK AT MOST 1048576: true; the input reads as it did. -/
def electAllUptoRow : OpenClaim := { program := "ytcdnjhcddbkciaa", sum := "0bc9a1502b14399b1204abf8faf05160a546c0cb4e075a5a0d6d3219292e132e", func := "coracle/coraclelaw18.ElectAll", spec := "electAll", unfollowed := true, recurses := true, apart := false, narrowed := true }
def ElectAllUptoSaid : Prop := electAllUptoRow.holds Try.pinned (OpenSpec.upto electAllSpec)

/-- 'coraclelaw18.ElectStands', WHERE WHAT IT READS IS OF BULK AT MOST 1048576: true; the input reads as it did. -/
def electStandsUptoRow : OpenClaim := { program := "ytcdnjhcddbkciaa", sum := "0bc9a1502b14399b1204abf8faf05160a546c0cb4e075a5a0d6d3219292e132e", func := "coracle/coraclelaw18.ElectStands", spec := "electStands", unfollowed := true, recurses := true, apart := false, narrowed := true }
def ElectStandsUptoSaid : Prop := electStandsUptoRow.holds Try.pinned (OpenSpec.upto electStandsSpec)

/-- 'coraclelaw19.SpreadFits', WHERE WHAT IT READS IS OF BULK AT MOST 1048576: true; the input reads as it did. -/
def spreadFitsUptoRow : OpenClaim := { program := "ytcdnjhcddbkciaa", sum := "0bc9a1502b14399b1204abf8faf05160a546c0cb4e075a5a0d6d3219292e132e", func := "coracle/coraclelaw19.SpreadFits", spec := "spreadFits", unfollowed := true, recurses := true, apart := false, narrowed := true }
def SpreadFitsUptoSaid : Prop := spreadFitsUptoRow.holds Try.pinned (OpenSpec.upto spreadFitsSpec)

/-- 'coraclelaw19.SpreadLater', WHERE WHAT IT READS IS OF BULK AT MOST 1048576: true; the input reads as it did. -/
def spreadLaterUptoRow : OpenClaim := { program := "ytcdnjhcddbkciaa", sum := "0bc9a1502b14399b1204abf8faf05160a546c0cb4e075a5a0d6d3219292e132e", func := "coracle/coraclelaw19.SpreadLater", spec := "spreadLater", unfollowed := true, recurses := true, apart := false, narrowed := true }
def SpreadLaterUptoSaid : Prop := spreadLaterUptoRow.holds Try.pinned (OpenSpec.upto spreadLaterSpec)

/-- 'coraclelaw19.SpreadMakes', WHERE WHAT IT READS IS OF BULK AT MOST 1048576: true; the input reads as it did. -/
def spreadMakesUptoRow : OpenClaim := { program := "ytcdnjhcddbkciaa", sum := "0bc9a1502b14399b1204abf8faf05160a546c0cb4e075a5a0d6d3219292e132e", func := "coracle/coraclelaw19.SpreadMakes", spec := "spreadMakes", unfollowed := true, recurses := true, apart := false, narrowed := true }
def SpreadMakesUptoSaid : Prop := spreadMakesUptoRow.holds Try.pinned (OpenSpec.upto spreadMakesSpec)

/-- 'coraclelaw19.SpreadEnds', WHERE WHAT IT READS IS OF BULK AT MOST 1048576: true; the input reads as it did. -/
def spreadEndsUptoRow : OpenClaim := { program := "ytcdnjhcddbkciaa", sum := "0bc9a1502b14399b1204abf8faf05160a546c0cb4e075a5a0d6d3219292e132e", func := "coracle/coraclelaw19.SpreadEnds", spec := "spreadEnds", unfollowed := true, recurses := true, apart := false, narrowed := true }
def SpreadEndsUptoSaid : Prop := spreadEndsUptoRow.holds Try.pinned (OpenSpec.upto spreadEndsSpec)

end Rows
end Go.Proofs.Ytcdnjhcddbkciaa
