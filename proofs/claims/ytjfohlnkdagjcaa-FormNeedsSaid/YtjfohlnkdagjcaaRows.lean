/-
  No cell of these rows narrows 'for every input' (looked for: loops, veiled, ifaces, maps, wideKeys, modest, calm, conditions, laid).
  DERIVED. THE GIVEN ROWS OF THIS SEAT. 15 by the template 'for every input the law returns true; each argument reads behind the call as it read before'; 0 by the template 'total and deterministic' (their statements: YtjfohlnkdagjcaaTotals.lean).
  GIVEN WITH THE SEED: the statements are not yours to turn. If you find one false, say at which input.
  Laid BY PROGRAM, IN A SANDBOX (cutbox-rows.mjs): the forced cells as the released guide's own fill.sh prints them over the translation abfcf8fc616e7153… (all of the seat's roots in one cut). By AI agents, Wed Nov 11 2026. No macro, syntax, notation, axiom, sorry.
-/
import Derived.Test.YtjfohlnkdagjcaaChecked
import GoSem.Claim
import GoSem.ClaimJoined
import GoSem.ClaimMapViews
import Derived.JoinedTies
import Derived.KernelRfl
namespace Go.Proofs.Ytjfohlnkdagjcaa
/- THE CELL 'sum', in the pinned program and in every row, IS THE sha256 OF THE DUMP (.gsa) THAT YtjfohlnkdagjcaaProg.lean LOADS. Nothing in Lean hashes anything: it is a label: what it is worth is what the hold of that sum in a sandbox is worth. -/
noncomputable def Try.pinned : Pinned := { name := "ytjfohlnkdagjcaa", sum := "abfcf8fc616e71538403cec4f56f01b8dfac039485e7b082d514ec47dab349f7", checked := Try.checked }
namespace Rows
def none {H : Type} : Left H := { results := [], args := [] }

/-- 'coraclelaw02.TagAll': WHATEVER THE INPUT: true; the input reads as it did. -/
def tagAllSpec : ChangeSpec := { name := "tagAll", fn := fun _ => fun
  | [d1, d2, d3] => { results := [.lit (.bool true)], args := [d1, d2, d3] }
  | _ => none }
def tagAllRow : OpenClaim := { program := "ytjfohlnkdagjcaa", sum := "abfcf8fc616e71538403cec4f56f01b8dfac039485e7b082d514ec47dab349f7", func := "coracle/coraclelaw02.TagAll", spec := "tagAll", unfollowed := true, recurses := true, apart := false }
def TagAllSaid : Prop := tagAllRow.holds Try.pinned (OpenSpec.ofChange tagAllSpec)

/-- ITS FALSE NEIGHBOUR: 'it returns false'. Refute it at one input. -/
def tagAllWrong : ChangeSpec := { name := "tagAll", fn := fun _ => fun
  | [d1, d2, d3] => { results := [.lit (.bool false)], args := [d1, d2, d3] }
  | _ => none }
def TagAllWrongFalsely : Prop := tagAllRow.holds Try.pinned (OpenSpec.ofChange tagAllWrong)

/-- 'coraclelaw02.TagBack': WHATEVER THE INPUT: true; the input reads as it did. -/
def tagBackSpec : ChangeSpec := { name := "tagBack", fn := fun _ => fun
  | [d1, d2, d3] => { results := [.lit (.bool true)], args := [d1, d2, d3] }
  | _ => none }
def tagBackRow : OpenClaim := { program := "ytjfohlnkdagjcaa", sum := "abfcf8fc616e71538403cec4f56f01b8dfac039485e7b082d514ec47dab349f7", func := "coracle/coraclelaw02.TagBack", spec := "tagBack", unfollowed := true, recurses := true, apart := false }
def TagBackSaid : Prop := tagBackRow.holds Try.pinned (OpenSpec.ofChange tagBackSpec)

/-- ITS FALSE NEIGHBOUR: 'it returns false'. Refute it at one input. -/
def tagBackWrong : ChangeSpec := { name := "tagBack", fn := fun _ => fun
  | [d1, d2, d3] => { results := [.lit (.bool false)], args := [d1, d2, d3] }
  | _ => none }
def TagBackWrongFalsely : Prop := tagBackRow.holds Try.pinned (OpenSpec.ofChange tagBackWrong)

/-- 'coraclelaw02.TagSkips': WHATEVER THE INPUT: true; the input reads as it did. -/
def tagSkipsSpec : ChangeSpec := { name := "tagSkips", fn := fun _ => fun
  | [d1, d2, d3] => { results := [.lit (.bool true)], args := [d1, d2, d3] }
  | _ => none }
def tagSkipsRow : OpenClaim := { program := "ytjfohlnkdagjcaa", sum := "abfcf8fc616e71538403cec4f56f01b8dfac039485e7b082d514ec47dab349f7", func := "coracle/coraclelaw02.TagSkips", spec := "tagSkips", unfollowed := true, recurses := true, apart := false }
def TagSkipsSaid : Prop := tagSkipsRow.holds Try.pinned (OpenSpec.ofChange tagSkipsSpec)

/-- ITS FALSE NEIGHBOUR: 'it returns false'. Refute it at one input. -/
def tagSkipsWrong : ChangeSpec := { name := "tagSkips", fn := fun _ => fun
  | [d1, d2, d3] => { results := [.lit (.bool false)], args := [d1, d2, d3] }
  | _ => none }
def TagSkipsWrongFalsely : Prop := tagSkipsRow.holds Try.pinned (OpenSpec.ofChange tagSkipsWrong)

/-- 'coraclelaw02.TagOnce': WHATEVER THE INPUT: true; the input reads as it did. -/
def tagOnceSpec : ChangeSpec := { name := "tagOnce", fn := fun _ => fun
  | [d1, d2, d3] => { results := [.lit (.bool true)], args := [d1, d2, d3] }
  | _ => none }
def tagOnceRow : OpenClaim := { program := "ytjfohlnkdagjcaa", sum := "abfcf8fc616e71538403cec4f56f01b8dfac039485e7b082d514ec47dab349f7", func := "coracle/coraclelaw02.TagOnce", spec := "tagOnce", unfollowed := true, recurses := true, apart := false }
def TagOnceSaid : Prop := tagOnceRow.holds Try.pinned (OpenSpec.ofChange tagOnceSpec)

/-- ITS FALSE NEIGHBOUR: 'it returns false'. Refute it at one input. -/
def tagOnceWrong : ChangeSpec := { name := "tagOnce", fn := fun _ => fun
  | [d1, d2, d3] => { results := [.lit (.bool false)], args := [d1, d2, d3] }
  | _ => none }
def TagOnceWrongFalsely : Prop := tagOnceRow.holds Try.pinned (OpenSpec.ofChange tagOnceWrong)

/-- 'coraclelaw03.TlvOrder': WHATEVER THE INPUT: true; the input reads as it did. -/
def tlvOrderSpec : ChangeSpec := { name := "tlvOrder", fn := fun _ => fun
  | [d1, d2] => { results := [.lit (.bool true)], args := [d1, d2] }
  | _ => none }
def tlvOrderRow : OpenClaim := { program := "ytjfohlnkdagjcaa", sum := "abfcf8fc616e71538403cec4f56f01b8dfac039485e7b082d514ec47dab349f7", func := "coracle/coraclelaw03.TlvOrder", spec := "tlvOrder", apart := false }
def TlvOrderSaid : Prop := tlvOrderRow.holds Try.pinned (OpenSpec.ofChange tlvOrderSpec)

/-- ITS FALSE NEIGHBOUR: 'it returns false'. Refute it at one input. -/
def tlvOrderWrong : ChangeSpec := { name := "tlvOrder", fn := fun _ => fun
  | [d1, d2] => { results := [.lit (.bool false)], args := [d1, d2] }
  | _ => none }
def TlvOrderWrongFalsely : Prop := tlvOrderRow.holds Try.pinned (OpenSpec.ofChange tlvOrderWrong)

/-- 'coraclelaw03.TlvLong': WHATEVER THE INPUT: true; the input reads as it did. -/
def tlvLongSpec : ChangeSpec := { name := "tlvLong", fn := fun _ => fun
  | [d] => { results := [.lit (.bool true)], args := [d] }
  | _ => none }
def tlvLongRow : OpenClaim := { program := "ytjfohlnkdagjcaa", sum := "abfcf8fc616e71538403cec4f56f01b8dfac039485e7b082d514ec47dab349f7", func := "coracle/coraclelaw03.TlvLong", spec := "tlvLong", apart := false }
def TlvLongSaid : Prop := tlvLongRow.holds Try.pinned (OpenSpec.ofChange tlvLongSpec)

/-- ITS FALSE NEIGHBOUR: 'it returns false'. Refute it at one input. -/
def tlvLongWrong : ChangeSpec := { name := "tlvLong", fn := fun _ => fun
  | [d] => { results := [.lit (.bool false)], args := [d] }
  | _ => none }
def TlvLongWrongFalsely : Prop := tlvLongRow.holds Try.pinned (OpenSpec.ofChange tlvLongWrong)

/-- 'coraclelaw03.TlvParts': WHATEVER THE INPUT: true; the input reads as it did. -/
def tlvPartsSpec : ChangeSpec := { name := "tlvParts", fn := fun _ => fun
  | [d1, d2] => { results := [.lit (.bool true)], args := [d1, d2] }
  | _ => none }
def tlvPartsRow : OpenClaim := { program := "ytjfohlnkdagjcaa", sum := "abfcf8fc616e71538403cec4f56f01b8dfac039485e7b082d514ec47dab349f7", func := "coracle/coraclelaw03.TlvParts", spec := "tlvParts", apart := false }
def TlvPartsSaid : Prop := tlvPartsRow.holds Try.pinned (OpenSpec.ofChange tlvPartsSpec)

/-- ITS FALSE NEIGHBOUR: 'it returns false'. Refute it at one input. -/
def tlvPartsWrong : ChangeSpec := { name := "tlvParts", fn := fun _ => fun
  | [d1, d2] => { results := [.lit (.bool false)], args := [d1, d2] }
  | _ => none }
def TlvPartsWrongFalsely : Prop := tlvPartsRow.holds Try.pinned (OpenSpec.ofChange tlvPartsWrong)

/-- 'coraclelaw03.TlvBack': WHATEVER THE INPUT: true; the input reads as it did. -/
def tlvBackSpec : ChangeSpec := { name := "tlvBack", fn := fun _ => fun
  | [d1, d2, d3] => { results := [.lit (.bool true)], args := [d1, d2, d3] }
  | _ => none }
def tlvBackRow : OpenClaim := { program := "ytjfohlnkdagjcaa", sum := "abfcf8fc616e71538403cec4f56f01b8dfac039485e7b082d514ec47dab349f7", func := "coracle/coraclelaw03.TlvBack", spec := "tlvBack", unfollowed := true, recurses := true, apart := false }
def TlvBackSaid : Prop := tlvBackRow.holds Try.pinned (OpenSpec.ofChange tlvBackSpec)

/-- ITS FALSE NEIGHBOUR: 'it returns false'. Refute it at one input. -/
def tlvBackWrong : ChangeSpec := { name := "tlvBack", fn := fun _ => fun
  | [d1, d2, d3] => { results := [.lit (.bool false)], args := [d1, d2, d3] }
  | _ => none }
def TlvBackWrongFalsely : Prop := tlvBackRow.holds Try.pinned (OpenSpec.ofChange tlvBackWrong)

/-- 'coraclelaw03.TlvJoins': WHATEVER THE INPUT: true; the input reads as it did. -/
def tlvJoinsSpec : ChangeSpec := { name := "tlvJoins", fn := fun _ => fun
  | [d1, d2] => { results := [.lit (.bool true)], args := [d1, d2] }
  | _ => none }
def tlvJoinsRow : OpenClaim := { program := "ytjfohlnkdagjcaa", sum := "abfcf8fc616e71538403cec4f56f01b8dfac039485e7b082d514ec47dab349f7", func := "coracle/coraclelaw03.TlvJoins", spec := "tlvJoins", unfollowed := true, recurses := true, apart := false }
def TlvJoinsSaid : Prop := tlvJoinsRow.holds Try.pinned (OpenSpec.ofChange tlvJoinsSpec)

/-- ITS FALSE NEIGHBOUR: 'it returns false'. Refute it at one input. -/
def tlvJoinsWrong : ChangeSpec := { name := "tlvJoins", fn := fun _ => fun
  | [d1, d2] => { results := [.lit (.bool false)], args := [d1, d2] }
  | _ => none }
def TlvJoinsWrongFalsely : Prop := tlvJoinsRow.holds Try.pinned (OpenSpec.ofChange tlvJoinsWrong)

/-- 'coraclelaw03.TlvAll': WHATEVER THE INPUT: true; the input reads as it did. -/
def tlvAllSpec : ChangeSpec := { name := "tlvAll", fn := fun _ => fun
  | [d1, d2, d3] => { results := [.lit (.bool true)], args := [d1, d2, d3] }
  | _ => none }
def tlvAllRow : OpenClaim := { program := "ytjfohlnkdagjcaa", sum := "abfcf8fc616e71538403cec4f56f01b8dfac039485e7b082d514ec47dab349f7", func := "coracle/coraclelaw03.TlvAll", spec := "tlvAll", unfollowed := true, recurses := true, apart := false }
def TlvAllSaid : Prop := tlvAllRow.holds Try.pinned (OpenSpec.ofChange tlvAllSpec)

/-- ITS FALSE NEIGHBOUR: 'it returns false'. Refute it at one input. -/
def tlvAllWrong : ChangeSpec := { name := "tlvAll", fn := fun _ => fun
  | [d1, d2, d3] => { results := [.lit (.bool false)], args := [d1, d2, d3] }
  | _ => none }
def TlvAllWrongFalsely : Prop := tlvAllRow.holds Try.pinned (OpenSpec.ofChange tlvAllWrong)

/-- 'coraclelaw04.FormGrows': WHATEVER THE INPUT: true; the input reads as it did. -/
def formGrowsSpec : ChangeSpec := { name := "formGrows", fn := fun _ => fun
  | [d] => { results := [.lit (.bool true)], args := [d] }
  | _ => none }
def formGrowsRow : OpenClaim := { program := "ytjfohlnkdagjcaa", sum := "abfcf8fc616e71538403cec4f56f01b8dfac039485e7b082d514ec47dab349f7", func := "coracle/coraclelaw04.FormGrows", spec := "formGrows", unfollowed := true, recurses := true, apart := false }
def FormGrowsSaid : Prop := formGrowsRow.holds Try.pinned (OpenSpec.ofChange formGrowsSpec)

/-- ITS FALSE NEIGHBOUR: 'it returns false'. Refute it at one input. -/
def formGrowsWrong : ChangeSpec := { name := "formGrows", fn := fun _ => fun
  | [d] => { results := [.lit (.bool false)], args := [d] }
  | _ => none }
def FormGrowsWrongFalsely : Prop := formGrowsRow.holds Try.pinned (OpenSpec.ofChange formGrowsWrong)

/-- 'coraclelaw04.FormOwn': WHATEVER THE INPUT: true; the input reads as it did. -/
def formOwnSpec : ChangeSpec := { name := "formOwn", fn := fun _ => fun
  | [d1, d2] => { results := [.lit (.bool true)], args := [d1, d2] }
  | _ => none }
def formOwnRow : OpenClaim := { program := "ytjfohlnkdagjcaa", sum := "abfcf8fc616e71538403cec4f56f01b8dfac039485e7b082d514ec47dab349f7", func := "coracle/coraclelaw04.FormOwn", spec := "formOwn", unfollowed := true, recurses := true, apart := false }
def FormOwnSaid : Prop := formOwnRow.holds Try.pinned (OpenSpec.ofChange formOwnSpec)

/-- ITS FALSE NEIGHBOUR: 'it returns false'. Refute it at one input. -/
def formOwnWrong : ChangeSpec := { name := "formOwn", fn := fun _ => fun
  | [d1, d2] => { results := [.lit (.bool false)], args := [d1, d2] }
  | _ => none }
def FormOwnWrongFalsely : Prop := formOwnRow.holds Try.pinned (OpenSpec.ofChange formOwnWrong)

/-- 'coraclelaw04.FormAll': WHATEVER THE INPUT: true; the input reads as it did. -/
def formAllSpec : ChangeSpec := { name := "formAll", fn := fun _ => fun
  | [d1, d2, d3] => { results := [.lit (.bool true)], args := [d1, d2, d3] }
  | _ => none }
def formAllRow : OpenClaim := { program := "ytjfohlnkdagjcaa", sum := "abfcf8fc616e71538403cec4f56f01b8dfac039485e7b082d514ec47dab349f7", func := "coracle/coraclelaw04.FormAll", spec := "formAll", unfollowed := true, recurses := true, apart := false }
def FormAllSaid : Prop := formAllRow.holds Try.pinned (OpenSpec.ofChange formAllSpec)

/-- ITS FALSE NEIGHBOUR: 'it returns false'. Refute it at one input. -/
def formAllWrong : ChangeSpec := { name := "formAll", fn := fun _ => fun
  | [d1, d2, d3] => { results := [.lit (.bool false)], args := [d1, d2, d3] }
  | _ => none }
def FormAllWrongFalsely : Prop := formAllRow.holds Try.pinned (OpenSpec.ofChange formAllWrong)

/-- 'coraclelaw04.FormLater': WHATEVER THE INPUT: true; the input reads as it did. -/
def formLaterSpec : ChangeSpec := { name := "formLater", fn := fun _ => fun
  | [d1, d2, d3] => { results := [.lit (.bool true)], args := [d1, d2, d3] }
  | _ => none }
def formLaterRow : OpenClaim := { program := "ytjfohlnkdagjcaa", sum := "abfcf8fc616e71538403cec4f56f01b8dfac039485e7b082d514ec47dab349f7", func := "coracle/coraclelaw04.FormLater", spec := "formLater", unfollowed := true, recurses := true, apart := false }
def FormLaterSaid : Prop := formLaterRow.holds Try.pinned (OpenSpec.ofChange formLaterSpec)

/-- ITS FALSE NEIGHBOUR: 'it returns false'. Refute it at one input. -/
def formLaterWrong : ChangeSpec := { name := "formLater", fn := fun _ => fun
  | [d1, d2, d3] => { results := [.lit (.bool false)], args := [d1, d2, d3] }
  | _ => none }
def FormLaterWrongFalsely : Prop := formLaterRow.holds Try.pinned (OpenSpec.ofChange formLaterWrong)

/-- 'coraclelaw04.FormNeeds': WHATEVER THE INPUT: true; the input reads as it did. -/
def formNeedsSpec : ChangeSpec := { name := "formNeeds", fn := fun _ => fun
  | [d1, d2, d3] => { results := [.lit (.bool true)], args := [d1, d2, d3] }
  | _ => none }
def formNeedsRow : OpenClaim := { program := "ytjfohlnkdagjcaa", sum := "abfcf8fc616e71538403cec4f56f01b8dfac039485e7b082d514ec47dab349f7", func := "coracle/coraclelaw04.FormNeeds", spec := "formNeeds", unfollowed := true, recurses := true, apart := false }
def FormNeedsSaid : Prop := formNeedsRow.holds Try.pinned (OpenSpec.ofChange formNeedsSpec)

/-- ITS FALSE NEIGHBOUR: 'it returns false'. Refute it at one input. -/
def formNeedsWrong : ChangeSpec := { name := "formNeeds", fn := fun _ => fun
  | [d1, d2, d3] => { results := [.lit (.bool false)], args := [d1, d2, d3] }
  | _ => none }
def FormNeedsWrongFalsely : Prop := formNeedsRow.holds Try.pinned (OpenSpec.ofChange formNeedsWrong)

/- THE SECOND FORM. 'bulk': how many values and letters a reading holds, each counted each time it is reached (what is shared counts as often as it is met; a slice's spare places count too). A statement '..UptoSaid' is the law's where the arguments, and the package variables that the reading takes, are together of bulk at most 1048576: NARROWER than '..Said'. Prove '..Said' where nothing that the law and all that it calls make is longer than what came in: it says more and counts as full. Else prove '..UptoSaid'. A law counts once. -/
mutual
def uptoBulk {H : Type} : DataW H → Nat
  | .lit (.string bytes) => bytes.length + 1
  | .lit _ => 1
  | .nil => 1
  | .ptr d => uptoBulk d + 1
  | .slice elems spare => uptoBulkAll elems + uptoBulkAll spare + 1
  | .agg parts => uptoBulkAll parts + 1
  | .iface _ d => uptoBulk d + 1
  | .map entries => uptoBulkEntries entries + 1
  | .held _ => 1
def uptoBulkAll {H : Type} : List (DataW H) → Nat
  | [] => 0
  | d :: r => uptoBulk d + uptoBulkAll r
def uptoBulkEntries {H : Type} : List (Lit × DataW H) → Nat
  | [] => 0
  | x :: r => uptoBulkEntry x + uptoBulkEntries r
def uptoBulkEntry {H : Type} : Lit × DataW H → Nat
  | (.string bytes, d) => bytes.length + uptoBulk d + 1
  | (_, d) => uptoBulk d + 1
 end
def uptoSmall : (H : Type) → List (DataW H) → Bool := fun _ ds => decide (uptoBulkAll ds ≤ 1048576)
def OpenSpec.upto (s : _root_.Go.ChangeSpec) : _root_.Go.OpenSpec := { _root_.Go.OpenSpec.ofChange s with cond := some uptoSmall }

/-- 'coraclelaw02.TagAll', WHERE WHAT IT READS IS OF BULK AT MOST 1048576: true; the input reads as it did. -/
def tagAllUptoRow : OpenClaim := { program := "ytjfohlnkdagjcaa", sum := "abfcf8fc616e71538403cec4f56f01b8dfac039485e7b082d514ec47dab349f7", func := "coracle/coraclelaw02.TagAll", spec := "tagAll", unfollowed := true, recurses := true, apart := false, narrowed := true }
def TagAllUptoSaid : Prop := tagAllUptoRow.holds Try.pinned (OpenSpec.upto tagAllSpec)

/-- 'coraclelaw02.TagBack', WHERE WHAT IT READS IS OF BULK AT MOST 1048576: true; the input reads as it did. -/
def tagBackUptoRow : OpenClaim := { program := "ytjfohlnkdagjcaa", sum := "abfcf8fc616e71538403cec4f56f01b8dfac039485e7b082d514ec47dab349f7", func := "coracle/coraclelaw02.TagBack", spec := "tagBack", unfollowed := true, recurses := true, apart := false, narrowed := true }
def TagBackUptoSaid : Prop := tagBackUptoRow.holds Try.pinned (OpenSpec.upto tagBackSpec)

/-- 'coraclelaw02.TagSkips', WHERE WHAT IT READS IS OF BULK AT MOST 1048576: true; the input reads as it did. -/
def tagSkipsUptoRow : OpenClaim := { program := "ytjfohlnkdagjcaa", sum := "abfcf8fc616e71538403cec4f56f01b8dfac039485e7b082d514ec47dab349f7", func := "coracle/coraclelaw02.TagSkips", spec := "tagSkips", unfollowed := true, recurses := true, apart := false, narrowed := true }
def TagSkipsUptoSaid : Prop := tagSkipsUptoRow.holds Try.pinned (OpenSpec.upto tagSkipsSpec)

/-- 'coraclelaw02.TagOnce', WHERE WHAT IT READS IS OF BULK AT MOST 1048576: true; the input reads as it did. -/
def tagOnceUptoRow : OpenClaim := { program := "ytjfohlnkdagjcaa", sum := "abfcf8fc616e71538403cec4f56f01b8dfac039485e7b082d514ec47dab349f7", func := "coracle/coraclelaw02.TagOnce", spec := "tagOnce", unfollowed := true, recurses := true, apart := false, narrowed := true }
def TagOnceUptoSaid : Prop := tagOnceUptoRow.holds Try.pinned (OpenSpec.upto tagOnceSpec)

/-- 'coraclelaw03.TlvOrder', WHERE WHAT IT READS IS OF BULK AT MOST 1048576: true; the input reads as it did. -/
def tlvOrderUptoRow : OpenClaim := { program := "ytjfohlnkdagjcaa", sum := "abfcf8fc616e71538403cec4f56f01b8dfac039485e7b082d514ec47dab349f7", func := "coracle/coraclelaw03.TlvOrder", spec := "tlvOrder", apart := false, narrowed := true }
def TlvOrderUptoSaid : Prop := tlvOrderUptoRow.holds Try.pinned (OpenSpec.upto tlvOrderSpec)

/-- 'coraclelaw03.TlvLong', WHERE WHAT IT READS IS OF BULK AT MOST 1048576: true; the input reads as it did. -/
def tlvLongUptoRow : OpenClaim := { program := "ytjfohlnkdagjcaa", sum := "abfcf8fc616e71538403cec4f56f01b8dfac039485e7b082d514ec47dab349f7", func := "coracle/coraclelaw03.TlvLong", spec := "tlvLong", apart := false, narrowed := true }
def TlvLongUptoSaid : Prop := tlvLongUptoRow.holds Try.pinned (OpenSpec.upto tlvLongSpec)

/-- 'coraclelaw03.TlvParts', WHERE WHAT IT READS IS OF BULK AT MOST 1048576: true; the input reads as it did. -/
def tlvPartsUptoRow : OpenClaim := { program := "ytjfohlnkdagjcaa", sum := "abfcf8fc616e71538403cec4f56f01b8dfac039485e7b082d514ec47dab349f7", func := "coracle/coraclelaw03.TlvParts", spec := "tlvParts", apart := false, narrowed := true }
def TlvPartsUptoSaid : Prop := tlvPartsUptoRow.holds Try.pinned (OpenSpec.upto tlvPartsSpec)

/-- 'coraclelaw03.TlvBack', WHERE WHAT IT READS IS OF BULK AT MOST 1048576: true; the input reads as it did. -/
def tlvBackUptoRow : OpenClaim := { program := "ytjfohlnkdagjcaa", sum := "abfcf8fc616e71538403cec4f56f01b8dfac039485e7b082d514ec47dab349f7", func := "coracle/coraclelaw03.TlvBack", spec := "tlvBack", unfollowed := true, recurses := true, apart := false, narrowed := true }
def TlvBackUptoSaid : Prop := tlvBackUptoRow.holds Try.pinned (OpenSpec.upto tlvBackSpec)

/-- 'coraclelaw03.TlvJoins', WHERE WHAT IT READS IS OF BULK AT MOST 1048576: true; the input reads as it did. -/
def tlvJoinsUptoRow : OpenClaim := { program := "ytjfohlnkdagjcaa", sum := "abfcf8fc616e71538403cec4f56f01b8dfac039485e7b082d514ec47dab349f7", func := "coracle/coraclelaw03.TlvJoins", spec := "tlvJoins", unfollowed := true, recurses := true, apart := false, narrowed := true }
def TlvJoinsUptoSaid : Prop := tlvJoinsUptoRow.holds Try.pinned (OpenSpec.upto tlvJoinsSpec)

/-- 'coraclelaw03.TlvAll', WHERE WHAT IT READS IS OF BULK AT MOST 1048576: true; the input reads as it did. -/
def tlvAllUptoRow : OpenClaim := { program := "ytjfohlnkdagjcaa", sum := "abfcf8fc616e71538403cec4f56f01b8dfac039485e7b082d514ec47dab349f7", func := "coracle/coraclelaw03.TlvAll", spec := "tlvAll", unfollowed := true, recurses := true, apart := false, narrowed := true }
def TlvAllUptoSaid : Prop := tlvAllUptoRow.holds Try.pinned (OpenSpec.upto tlvAllSpec)

/-- 'coraclelaw04.FormGrows', WHERE WHAT IT READS IS OF BULK AT MOST 1048576: true; the input reads as it did. -/
def formGrowsUptoRow : OpenClaim := { program := "ytjfohlnkdagjcaa", sum := "abfcf8fc616e71538403cec4f56f01b8dfac039485e7b082d514ec47dab349f7", func := "coracle/coraclelaw04.FormGrows", spec := "formGrows", unfollowed := true, recurses := true, apart := false, narrowed := true }
def FormGrowsUptoSaid : Prop := formGrowsUptoRow.holds Try.pinned (OpenSpec.upto formGrowsSpec)

/-- 'coraclelaw04.FormOwn', WHERE WHAT IT READS IS OF BULK AT MOST 1048576: true; the input reads as it did. -/
def formOwnUptoRow : OpenClaim := { program := "ytjfohlnkdagjcaa", sum := "abfcf8fc616e71538403cec4f56f01b8dfac039485e7b082d514ec47dab349f7", func := "coracle/coraclelaw04.FormOwn", spec := "formOwn", unfollowed := true, recurses := true, apart := false, narrowed := true }
def FormOwnUptoSaid : Prop := formOwnUptoRow.holds Try.pinned (OpenSpec.upto formOwnSpec)

/-- 'coraclelaw04.FormAll', WHERE WHAT IT READS IS OF BULK AT MOST 1048576: true; the input reads as it did. -/
def formAllUptoRow : OpenClaim := { program := "ytjfohlnkdagjcaa", sum := "abfcf8fc616e71538403cec4f56f01b8dfac039485e7b082d514ec47dab349f7", func := "coracle/coraclelaw04.FormAll", spec := "formAll", unfollowed := true, recurses := true, apart := false, narrowed := true }
def FormAllUptoSaid : Prop := formAllUptoRow.holds Try.pinned (OpenSpec.upto formAllSpec)

/-- 'coraclelaw04.FormLater', WHERE WHAT IT READS IS OF BULK AT MOST 1048576: true; the input reads as it did. -/
def formLaterUptoRow : OpenClaim := { program := "ytjfohlnkdagjcaa", sum := "abfcf8fc616e71538403cec4f56f01b8dfac039485e7b082d514ec47dab349f7", func := "coracle/coraclelaw04.FormLater", spec := "formLater", unfollowed := true, recurses := true, apart := false, narrowed := true }
def FormLaterUptoSaid : Prop := formLaterUptoRow.holds Try.pinned (OpenSpec.upto formLaterSpec)

/-- 'coraclelaw04.FormNeeds', WHERE WHAT IT READS IS OF BULK AT MOST 1048576: true; the input reads as it did. -/
def formNeedsUptoRow : OpenClaim := { program := "ytjfohlnkdagjcaa", sum := "abfcf8fc616e71538403cec4f56f01b8dfac039485e7b082d514ec47dab349f7", func := "coracle/coraclelaw04.FormNeeds", spec := "formNeeds", unfollowed := true, recurses := true, apart := false, narrowed := true }
def FormNeedsUptoSaid : Prop := formNeedsUptoRow.holds Try.pinned (OpenSpec.upto formNeedsSpec)

end Rows
end Go.Proofs.Ytjfohlnkdagjcaa
