/-
  No cell of these rows narrows 'for every input' (looked for: loops, veiled, ifaces, maps, wideKeys, modest, calm, conditions, laid).
  DERIVED. THE GIVEN ROWS OF THIS SEAT. 12 by the template 'for every input the law returns true; each argument reads behind the call as it read before'; 0 by the template 'total and deterministic' (their statements: YtiildgoaiookhaaTotals.lean).
  GIVEN WITH THE SEED: the statements are not yours to turn. If you find one false, say at which input.
  Laid BY PROGRAM, IN A SANDBOX (cutbox-rows.mjs): the forced cells as the released guide's own fill.sh prints them over the translation f2c652c58805f945… (all of the seat's roots in one cut). By AI agents, Wed Nov 11 2026. No macro, syntax, notation, axiom, sorry.
-/
import Derived.Test.YtiildgoaiookhaaChecked
import GoSem.Claim
import GoSem.ClaimJoined
import GoSem.ClaimMapViews
import Derived.JoinedTies
import Derived.KernelRfl
namespace Go.Proofs.Ytiildgoaiookhaa
/- THE CELL 'sum', in the pinned program and in every row, IS THE sha256 OF THE DUMP (.gsa) THAT YtiildgoaiookhaaProg.lean LOADS. Nothing in Lean hashes anything: it is a label: what it is worth is what the hold of that sum in a sandbox is worth. -/
noncomputable def Try.pinned : Pinned := { name := "ytiildgoaiookhaa", sum := "f2c652c58805f945d149d909481159fb05f9adc8ae8742eb91f97f1803df3f9f", checked := Try.checked }
namespace Rows
def none {H : Type} : Left H := { results := [], args := [] }

/-- 'coraclelaw07.StateGrows': WHATEVER THE INPUT: true; the input reads as it did. -/
def stateGrowsSpec : ChangeSpec := { name := "stateGrows", fn := fun _ => fun
  | [d1, d2] => { results := [.lit (.bool true)], args := [d1, d2] }
  | _ => none }
def stateGrowsRow : OpenClaim := { program := "ytiildgoaiookhaa", sum := "f2c652c58805f945d149d909481159fb05f9adc8ae8742eb91f97f1803df3f9f", func := "coracle/coraclelaw07.StateGrows", spec := "stateGrows", unfollowed := true, recurses := true, apart := false }
def StateGrowsSaid : Prop := stateGrowsRow.holds Try.pinned (OpenSpec.ofChange stateGrowsSpec)

/-- ITS FALSE NEIGHBOUR: 'it returns false'. Refute it at one input. -/
def stateGrowsWrong : ChangeSpec := { name := "stateGrows", fn := fun _ => fun
  | [d1, d2] => { results := [.lit (.bool false)], args := [d1, d2] }
  | _ => none }
def StateGrowsWrongFalsely : Prop := stateGrowsRow.holds Try.pinned (OpenSpec.ofChange stateGrowsWrong)

/-- 'coraclelaw07.StateKept': WHATEVER THE INPUT: true; the input reads as it did. -/
def stateKeptSpec : ChangeSpec := { name := "stateKept", fn := fun _ => fun
  | [d] => { results := [.lit (.bool true)], args := [d] }
  | _ => none }
def stateKeptRow : OpenClaim := { program := "ytiildgoaiookhaa", sum := "f2c652c58805f945d149d909481159fb05f9adc8ae8742eb91f97f1803df3f9f", func := "coracle/coraclelaw07.StateKept", spec := "stateKept", unfollowed := true, recurses := true, apart := false }
def StateKeptSaid : Prop := stateKeptRow.holds Try.pinned (OpenSpec.ofChange stateKeptSpec)

/-- ITS FALSE NEIGHBOUR: 'it returns false'. Refute it at one input. -/
def stateKeptWrong : ChangeSpec := { name := "stateKept", fn := fun _ => fun
  | [d] => { results := [.lit (.bool false)], args := [d] }
  | _ => none }
def StateKeptWrongFalsely : Prop := stateKeptRow.holds Try.pinned (OpenSpec.ofChange stateKeptWrong)

/-- 'coraclelaw07.StateParts': WHATEVER THE INPUT: true; the input reads as it did. -/
def statePartsSpec : ChangeSpec := { name := "stateParts", fn := fun _ => fun
  | [d1, d2, d3] => { results := [.lit (.bool true)], args := [d1, d2, d3] }
  | _ => none }
def statePartsRow : OpenClaim := { program := "ytiildgoaiookhaa", sum := "f2c652c58805f945d149d909481159fb05f9adc8ae8742eb91f97f1803df3f9f", func := "coracle/coraclelaw07.StateParts", spec := "stateParts", unfollowed := true, recurses := true, apart := false }
def StatePartsSaid : Prop := statePartsRow.holds Try.pinned (OpenSpec.ofChange statePartsSpec)

/-- ITS FALSE NEIGHBOUR: 'it returns false'. Refute it at one input. -/
def statePartsWrong : ChangeSpec := { name := "stateParts", fn := fun _ => fun
  | [d1, d2, d3] => { results := [.lit (.bool false)], args := [d1, d2, d3] }
  | _ => none }
def StatePartsWrongFalsely : Prop := statePartsRow.holds Try.pinned (OpenSpec.ofChange statePartsWrong)

/-- 'coraclelaw07.StateMay': WHATEVER THE INPUT: true; the input reads as it did. -/
def stateMaySpec : ChangeSpec := { name := "stateMay", fn := fun _ => fun
  | [d1, d2, d3] => { results := [.lit (.bool true)], args := [d1, d2, d3] }
  | _ => none }
def stateMayRow : OpenClaim := { program := "ytiildgoaiookhaa", sum := "f2c652c58805f945d149d909481159fb05f9adc8ae8742eb91f97f1803df3f9f", func := "coracle/coraclelaw07.StateMay", spec := "stateMay", unfollowed := true, recurses := true, apart := false }
def StateMaySaid : Prop := stateMayRow.holds Try.pinned (OpenSpec.ofChange stateMaySpec)

/-- ITS FALSE NEIGHBOUR: 'it returns false'. Refute it at one input. -/
def stateMayWrong : ChangeSpec := { name := "stateMay", fn := fun _ => fun
  | [d1, d2, d3] => { results := [.lit (.bool false)], args := [d1, d2, d3] }
  | _ => none }
def StateMayWrongFalsely : Prop := stateMayRow.holds Try.pinned (OpenSpec.ofChange stateMayWrong)

/-- 'coraclelaw07.StateFinds': WHATEVER THE INPUT: true; the input reads as it did. -/
def stateFindsSpec : ChangeSpec := { name := "stateFinds", fn := fun _ => fun
  | [d1, d2] => { results := [.lit (.bool true)], args := [d1, d2] }
  | _ => none }
def stateFindsRow : OpenClaim := { program := "ytiildgoaiookhaa", sum := "f2c652c58805f945d149d909481159fb05f9adc8ae8742eb91f97f1803df3f9f", func := "coracle/coraclelaw07.StateFinds", spec := "stateFinds", unfollowed := true, recurses := true, apart := false }
def StateFindsSaid : Prop := stateFindsRow.holds Try.pinned (OpenSpec.ofChange stateFindsSpec)

/-- ITS FALSE NEIGHBOUR: 'it returns false'. Refute it at one input. -/
def stateFindsWrong : ChangeSpec := { name := "stateFinds", fn := fun _ => fun
  | [d1, d2] => { results := [.lit (.bool false)], args := [d1, d2] }
  | _ => none }
def StateFindsWrongFalsely : Prop := stateFindsRow.holds Try.pinned (OpenSpec.ofChange stateFindsWrong)

/-- 'coraclelaw07.StateSame': WHATEVER THE INPUT: true; the input reads as it did. -/
def stateSameSpec : ChangeSpec := { name := "stateSame", fn := fun _ => fun
  | [d1, d2] => { results := [.lit (.bool true)], args := [d1, d2] }
  | _ => none }
def stateSameRow : OpenClaim := { program := "ytiildgoaiookhaa", sum := "f2c652c58805f945d149d909481159fb05f9adc8ae8742eb91f97f1803df3f9f", func := "coracle/coraclelaw07.StateSame", spec := "stateSame", unfollowed := true, recurses := true, apart := false }
def StateSameSaid : Prop := stateSameRow.holds Try.pinned (OpenSpec.ofChange stateSameSpec)

/-- ITS FALSE NEIGHBOUR: 'it returns false'. Refute it at one input. -/
def stateSameWrong : ChangeSpec := { name := "stateSame", fn := fun _ => fun
  | [d1, d2] => { results := [.lit (.bool false)], args := [d1, d2] }
  | _ => none }
def StateSameWrongFalsely : Prop := stateSameRow.holds Try.pinned (OpenSpec.ofChange stateSameWrong)

/-- 'coraclelaw10.ImagePuts': WHATEVER THE INPUT: true; the input reads as it did. -/
def imagePutsSpec : ChangeSpec := { name := "imagePuts", fn := fun _ => fun
  | [d1, d2, d3] => { results := [.lit (.bool true)], args := [d1, d2, d3] }
  | _ => none }
def imagePutsRow : OpenClaim := { program := "ytiildgoaiookhaa", sum := "f2c652c58805f945d149d909481159fb05f9adc8ae8742eb91f97f1803df3f9f", func := "coracle/coraclelaw10.ImagePuts", spec := "imagePuts", unfollowed := true, recurses := true, apart := false }
def ImagePutsSaid : Prop := imagePutsRow.holds Try.pinned (OpenSpec.ofChange imagePutsSpec)

/-- ITS FALSE NEIGHBOUR: 'it returns false'. Refute it at one input. -/
def imagePutsWrong : ChangeSpec := { name := "imagePuts", fn := fun _ => fun
  | [d1, d2, d3] => { results := [.lit (.bool false)], args := [d1, d2, d3] }
  | _ => none }
def ImagePutsWrongFalsely : Prop := imagePutsRow.holds Try.pinned (OpenSpec.ofChange imagePutsWrong)

/-- 'coraclelaw10.ImageSame': WHATEVER THE INPUT: true; the input reads as it did. -/
def imageSameSpec : ChangeSpec := { name := "imageSame", fn := fun _ => fun
  | [d1, d2, d3] => { results := [.lit (.bool true)], args := [d1, d2, d3] }
  | _ => none }
def imageSameRow : OpenClaim := { program := "ytiildgoaiookhaa", sum := "f2c652c58805f945d149d909481159fb05f9adc8ae8742eb91f97f1803df3f9f", func := "coracle/coraclelaw10.ImageSame", spec := "imageSame", unfollowed := true, recurses := true, apart := false }
def ImageSameSaid : Prop := imageSameRow.holds Try.pinned (OpenSpec.ofChange imageSameSpec)

/-- ITS FALSE NEIGHBOUR: 'it returns false'. Refute it at one input. -/
def imageSameWrong : ChangeSpec := { name := "imageSame", fn := fun _ => fun
  | [d1, d2, d3] => { results := [.lit (.bool false)], args := [d1, d2, d3] }
  | _ => none }
def ImageSameWrongFalsely : Prop := imageSameRow.holds Try.pinned (OpenSpec.ofChange imageSameWrong)

/-- 'coraclelaw10.ImageGrows': WHATEVER THE INPUT: true; the input reads as it did. -/
def imageGrowsSpec : ChangeSpec := { name := "imageGrows", fn := fun _ => fun
  | [d1, d2, d3] => { results := [.lit (.bool true)], args := [d1, d2, d3] }
  | _ => none }
def imageGrowsRow : OpenClaim := { program := "ytiildgoaiookhaa", sum := "f2c652c58805f945d149d909481159fb05f9adc8ae8742eb91f97f1803df3f9f", func := "coracle/coraclelaw10.ImageGrows", spec := "imageGrows", unfollowed := true, recurses := true, apart := false }
def ImageGrowsSaid : Prop := imageGrowsRow.holds Try.pinned (OpenSpec.ofChange imageGrowsSpec)

/-- ITS FALSE NEIGHBOUR: 'it returns false'. Refute it at one input. -/
def imageGrowsWrong : ChangeSpec := { name := "imageGrows", fn := fun _ => fun
  | [d1, d2, d3] => { results := [.lit (.bool false)], args := [d1, d2, d3] }
  | _ => none }
def ImageGrowsWrongFalsely : Prop := imageGrowsRow.holds Try.pinned (OpenSpec.ofChange imageGrowsWrong)

/-- 'coraclelaw10.ImageBack': WHATEVER THE INPUT: true; the input reads as it did. -/
def imageBackSpec : ChangeSpec := { name := "imageBack", fn := fun _ => fun
  | [d1, d2, d3] => { results := [.lit (.bool true)], args := [d1, d2, d3] }
  | _ => none }
def imageBackRow : OpenClaim := { program := "ytiildgoaiookhaa", sum := "f2c652c58805f945d149d909481159fb05f9adc8ae8742eb91f97f1803df3f9f", func := "coracle/coraclelaw10.ImageBack", spec := "imageBack", unfollowed := true, recurses := true, apart := false }
def ImageBackSaid : Prop := imageBackRow.holds Try.pinned (OpenSpec.ofChange imageBackSpec)

/-- ITS FALSE NEIGHBOUR: 'it returns false'. Refute it at one input. -/
def imageBackWrong : ChangeSpec := { name := "imageBack", fn := fun _ => fun
  | [d1, d2, d3] => { results := [.lit (.bool false)], args := [d1, d2, d3] }
  | _ => none }
def ImageBackWrongFalsely : Prop := imageBackRow.holds Try.pinned (OpenSpec.ofChange imageBackWrong)

/-- 'coraclelaw10.ImageOnce': WHATEVER THE INPUT: true; the input reads as it did. -/
def imageOnceSpec : ChangeSpec := { name := "imageOnce", fn := fun _ => fun
  | [d1, d2] => { results := [.lit (.bool true)], args := [d1, d2] }
  | _ => none }
def imageOnceRow : OpenClaim := { program := "ytiildgoaiookhaa", sum := "f2c652c58805f945d149d909481159fb05f9adc8ae8742eb91f97f1803df3f9f", func := "coracle/coraclelaw10.ImageOnce", spec := "imageOnce", unfollowed := true, recurses := true, apart := false }
def ImageOnceSaid : Prop := imageOnceRow.holds Try.pinned (OpenSpec.ofChange imageOnceSpec)

/-- ITS FALSE NEIGHBOUR: 'it returns false'. Refute it at one input. -/
def imageOnceWrong : ChangeSpec := { name := "imageOnce", fn := fun _ => fun
  | [d1, d2] => { results := [.lit (.bool false)], args := [d1, d2] }
  | _ => none }
def ImageOnceWrongFalsely : Prop := imageOnceRow.holds Try.pinned (OpenSpec.ofChange imageOnceWrong)

/-- 'coraclelaw10.ImageOlder': WHATEVER THE INPUT: true; the input reads as it did. -/
def imageOlderSpec : ChangeSpec := { name := "imageOlder", fn := fun _ => fun
  | [d1, d2, d3] => { results := [.lit (.bool true)], args := [d1, d2, d3] }
  | _ => none }
def imageOlderRow : OpenClaim := { program := "ytiildgoaiookhaa", sum := "f2c652c58805f945d149d909481159fb05f9adc8ae8742eb91f97f1803df3f9f", func := "coracle/coraclelaw10.ImageOlder", spec := "imageOlder", unfollowed := true, recurses := true, apart := false }
def ImageOlderSaid : Prop := imageOlderRow.holds Try.pinned (OpenSpec.ofChange imageOlderSpec)

/-- ITS FALSE NEIGHBOUR: 'it returns false'. Refute it at one input. -/
def imageOlderWrong : ChangeSpec := { name := "imageOlder", fn := fun _ => fun
  | [d1, d2, d3] => { results := [.lit (.bool false)], args := [d1, d2, d3] }
  | _ => none }
def ImageOlderWrongFalsely : Prop := imageOlderRow.holds Try.pinned (OpenSpec.ofChange imageOlderWrong)

/- THE SECOND FORM. 'bulk': how many values and letters a reading holds, each counted each time it is reached (what is shared counts as often as it is met; a slice's spare places count too). A statement '..UptoSaid' is the law's where the arguments, and the package variables that the reading takes, are together of bulk at most 1048576: NARROWER than '..Said'. Prove '..Said' where nothing that the law and all that it calls make is longer than what came in: it says more and counts as full. Else prove '..UptoSaid'. A law counts once. -/
mutual
def uptoBulk {H : Type} : DataW H → Nat
  | .lit (.string bytes) => bytes.length + 1
  | .lit _ => 1
  | .nil => 1
  | .ptr d => uptoBulk d + 1
  | .slice elems spare => uptoBulkAll elems + uptoBulkAll spare + 1
  | .agg parts => uptoBulkAll parts + 1
  | .iface _ d => uptoBulk d + 1
  | .map entries => uptoBulkEntries entries + 1
  | .held _ => 1
def uptoBulkAll {H : Type} : List (DataW H) → Nat
  | [] => 0
  | d :: r => uptoBulk d + uptoBulkAll r
def uptoBulkEntries {H : Type} : List (Lit × DataW H) → Nat
  | [] => 0
  | x :: r => uptoBulkEntry x + uptoBulkEntries r
def uptoBulkEntry {H : Type} : Lit × DataW H → Nat
  | (.string bytes, d) => bytes.length + uptoBulk d + 1
  | (_, d) => uptoBulk d + 1
 end
def uptoSmall : (H : Type) → List (DataW H) → Bool := fun _ ds => decide (uptoBulkAll ds ≤ 1048576)
def OpenSpec.upto (s : _root_.Go.ChangeSpec) : _root_.Go.OpenSpec := { _root_.Go.OpenSpec.ofChange s with cond := some uptoSmall }

/-- 'coraclelaw07.StateGrows', WHERE WHAT IT READS IS OF BULK AT MOST 1048576: true; the input reads as it did. -/
def stateGrowsUptoRow : OpenClaim := { program := "ytiildgoaiookhaa", sum := "f2c652c58805f945d149d909481159fb05f9adc8ae8742eb91f97f1803df3f9f", func := "coracle/coraclelaw07.StateGrows", spec := "stateGrows", unfollowed := true, recurses := true, apart := false, narrowed := true }
def StateGrowsUptoSaid : Prop := stateGrowsUptoRow.holds Try.pinned (OpenSpec.upto stateGrowsSpec)

/-- 'coraclelaw07.StateKept', WHERE WHAT IT READS IS OF BULK AT MOST 1048576: true; the input reads as it did. -/
def stateKeptUptoRow : OpenClaim := { program := "ytiildgoaiookhaa", sum := "f2c652c58805f945d149d909481159fb05f9adc8ae8742eb91f97f1803df3f9f", func := "coracle/coraclelaw07.StateKept", spec := "stateKept", unfollowed := true, recurses := true, apart := false, narrowed := true }
def StateKeptUptoSaid : Prop := stateKeptUptoRow.holds Try.pinned (OpenSpec.upto stateKeptSpec)

/-- 'coraclelaw07.StateParts', WHERE WHAT IT READS IS OF BULK AT MOST 1048576: true; the input reads as it did. -/
def statePartsUptoRow : OpenClaim := { program := "ytiildgoaiookhaa", sum := "f2c652c58805f945d149d909481159fb05f9adc8ae8742eb91f97f1803df3f9f", func := "coracle/coraclelaw07.StateParts", spec := "stateParts", unfollowed := true, recurses := true, apart := false, narrowed := true }
def StatePartsUptoSaid : Prop := statePartsUptoRow.holds Try.pinned (OpenSpec.upto statePartsSpec)

/-- 'coraclelaw07.StateMay', WHERE WHAT IT READS IS OF BULK AT MOST 1048576: true; the input reads as it did. -/
def stateMayUptoRow : OpenClaim := { program := "ytiildgoaiookhaa", sum := "f2c652c58805f945d149d909481159fb05f9adc8ae8742eb91f97f1803df3f9f", func := "coracle/coraclelaw07.StateMay", spec := "stateMay", unfollowed := true, recurses := true, apart := false, narrowed := true }
def StateMayUptoSaid : Prop := stateMayUptoRow.holds Try.pinned (OpenSpec.upto stateMaySpec)

/-- 'coraclelaw07.StateFinds', WHERE WHAT IT READS IS OF BULK AT MOST 1048576: true; the input reads as it did. -/
def stateFindsUptoRow : OpenClaim := { program := "ytiildgoaiookhaa", sum := "f2c652c58805f945d149d909481159fb05f9adc8ae8742eb91f97f1803df3f9f", func := "coracle/coraclelaw07.StateFinds", spec := "stateFinds", unfollowed := true, recurses := true, apart := false, narrowed := true }
def StateFindsUptoSaid : Prop := stateFindsUptoRow.holds Try.pinned (OpenSpec.upto stateFindsSpec)

/-- 'coraclelaw07.StateSame', WHERE WHAT IT READS IS OF BULK AT MOST 1048576: true; the input reads as it did. -/
def stateSameUptoRow : OpenClaim := { program := "ytiildgoaiookhaa", sum := "f2c652c58805f945d149d909481159fb05f9adc8ae8742eb91f97f1803df3f9f", func := "coracle/coraclelaw07.StateSame", spec := "stateSame", unfollowed := true, recurses := true, apart := false, narrowed := true }
def StateSameUptoSaid : Prop := stateSameUptoRow.holds Try.pinned (OpenSpec.upto stateSameSpec)

/-- 'coraclelaw10.ImagePuts', WHERE WHAT IT READS IS OF BULK AT MOST 1048576: true; the input reads as it did. -/
def imagePutsUptoRow : OpenClaim := { program := "ytiildgoaiookhaa", sum := "f2c652c58805f945d149d909481159fb05f9adc8ae8742eb91f97f1803df3f9f", func := "coracle/coraclelaw10.ImagePuts", spec := "imagePuts", unfollowed := true, recurses := true, apart := false, narrowed := true }
def ImagePutsUptoSaid : Prop := imagePutsUptoRow.holds Try.pinned (OpenSpec.upto imagePutsSpec)

/-- 'coraclelaw10.ImageSame', WHERE WHAT IT READS IS OF BULK AT MOST 1048576: true; the input reads as it did. -/
def imageSameUptoRow : OpenClaim := { program := "ytiildgoaiookhaa", sum := "f2c652c58805f945d149d909481159fb05f9adc8ae8742eb91f97f1803df3f9f", func := "coracle/coraclelaw10.ImageSame", spec := "imageSame", unfollowed := true, recurses := true, apart := false, narrowed := true }
def ImageSameUptoSaid : Prop := imageSameUptoRow.holds Try.pinned (OpenSpec.upto imageSameSpec)

/-- 'coraclelaw10.ImageGrows', WHERE WHAT IT READS IS OF BULK AT MOST 1048576: true; the input reads as it did. -/
def imageGrowsUptoRow : OpenClaim := { program := "ytiildgoaiookhaa", sum := "f2c652c58805f945d149d909481159fb05f9adc8ae8742eb91f97f1803df3f9f", func := "coracle/coraclelaw10.ImageGrows", spec := "imageGrows", unfollowed := true, recurses := true, apart := false, narrowed := true }
def ImageGrowsUptoSaid : Prop := imageGrowsUptoRow.holds Try.pinned (OpenSpec.upto imageGrowsSpec)

/-- 'coraclelaw10.ImageBack', WHERE WHAT IT READS IS OF BULK AT MOST 1048576: true; the input reads as it did. -/
def imageBackUptoRow : OpenClaim := { program := "ytiildgoaiookhaa", sum := "f2c652c58805f945d149d909481159fb05f9adc8ae8742eb91f97f1803df3f9f", func := "coracle/coraclelaw10.ImageBack", spec := "imageBack", unfollowed := true, recurses := true, apart := false, narrowed := true }
def ImageBackUptoSaid : Prop := imageBackUptoRow.holds Try.pinned (OpenSpec.upto imageBackSpec)

/-- 'coraclelaw10.ImageOnce', WHERE WHAT IT READS IS OF BULK AT MOST 1048576: true; the input reads as it did. -/
def imageOnceUptoRow : OpenClaim := { program := "ytiildgoaiookhaa", sum := "f2c652c58805f945d149d909481159fb05f9adc8ae8742eb91f97f1803df3f9f", func := "coracle/coraclelaw10.ImageOnce", spec := "imageOnce", unfollowed := true, recurses := true, apart := false, narrowed := true }
def ImageOnceUptoSaid : Prop := imageOnceUptoRow.holds Try.pinned (OpenSpec.upto imageOnceSpec)

/-- 'coraclelaw10.ImageOlder', WHERE WHAT IT READS IS OF BULK AT MOST 1048576: true; the input reads as it did. -/
def imageOlderUptoRow : OpenClaim := { program := "ytiildgoaiookhaa", sum := "f2c652c58805f945d149d909481159fb05f9adc8ae8742eb91f97f1803df3f9f", func := "coracle/coraclelaw10.ImageOlder", spec := "imageOlder", unfollowed := true, recurses := true, apart := false, narrowed := true }
def ImageOlderUptoSaid : Prop := imageOlderUptoRow.holds Try.pinned (OpenSpec.upto imageOlderSpec)

end Rows
end Go.Proofs.Ytiildgoaiookhaa
