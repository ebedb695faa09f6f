/-
  No cell of these rows narrows 'for every input' (looked for: loops, veiled, ifaces, maps, wideKeys, modest, calm, conditions, laid).
  DERIVED. THE GIVEN ROWS OF THIS SEAT. 7 by the template 'for every input the law returns true; each argument reads behind the call as it read before'; 0 by the template 'total and deterministic' (their statements: YtiikijdkhmbdbaaTotals.lean).
  GIVEN WITH THE SEED: the statements are not yours to turn. If you find one false, say at which input.
  Laid BY PROGRAM, IN A SANDBOX (cutbox-rows.mjs): the forced cells as the released guide's own fill.sh prints them over the translation f1dc202d44614d0e… (all of the seat's roots in one cut). By AI agents, Wed Nov 11 2026. No macro, syntax, notation, axiom, sorry.
-/
import Derived.Test.YtiikijdkhmbdbaaChecked
import GoSem.Claim
import GoSem.ClaimJoined
import GoSem.ClaimMapViews
import Derived.JoinedTies
import Derived.KernelRfl
namespace Go.Proofs.Ytiikijdkhmbdbaa
/- THE CELL 'sum', in the pinned program and in every row, IS THE sha256 OF THE DUMP (.gsa) THAT YtiikijdkhmbdbaaProg.lean LOADS. Nothing in Lean hashes anything: it is a label: what it is worth is what the hold of that sum in a sandbox is worth. -/
noncomputable def Try.pinned : Pinned := { name := "ytiikijdkhmbdbaa", sum := "f1dc202d44614d0ef5382dd8ae3b7db8c5830707d716522693354e533862e986", checked := Try.checked }
namespace Rows
def none {H : Type} : Left H := { results := [], args := [] }

/-- 'ambidexterlaw10.LexerMatchesReference': WHATEVER THE INPUT: true; the input reads as it did. -/
def lexerMatchesReferenceSpec : ChangeSpec := { name := "lexerMatchesReference", fn := fun _ => fun
  | [d] => { results := [.lit (.bool true)], args := [d] }
  | _ => none }
def lexerMatchesReferenceRow : OpenClaim := { program := "ytiikijdkhmbdbaa", sum := "f1dc202d44614d0ef5382dd8ae3b7db8c5830707d716522693354e533862e986", func := "ambidexter/ambidexterlaw10.LexerMatchesReference", spec := "lexerMatchesReference", unfollowed := true, recurses := true, apart := false }
def LexerMatchesReferenceSaid : Prop := lexerMatchesReferenceRow.holds Try.pinned (OpenSpec.ofChange lexerMatchesReferenceSpec)

/-- ITS FALSE NEIGHBOUR: 'it returns false'. Refute it at one input. -/
def lexerMatchesReferenceWrong : ChangeSpec := { name := "lexerMatchesReference", fn := fun _ => fun
  | [d] => { results := [.lit (.bool false)], args := [d] }
  | _ => none }
def LexerMatchesReferenceWrongFalsely : Prop := lexerMatchesReferenceRow.holds Try.pinned (OpenSpec.ofChange lexerMatchesReferenceWrong)

/-- 'ambidexterlaw10.LexerOffsets': WHATEVER THE INPUT: true; the input reads as it did. -/
def lexerOffsetsSpec : ChangeSpec := { name := "lexerOffsets", fn := fun _ => fun
  | [d] => { results := [.lit (.bool true)], args := [d] }
  | _ => none }
def lexerOffsetsRow : OpenClaim := { program := "ytiikijdkhmbdbaa", sum := "f1dc202d44614d0ef5382dd8ae3b7db8c5830707d716522693354e533862e986", func := "ambidexter/ambidexterlaw10.LexerOffsets", spec := "lexerOffsets", unfollowed := true, recurses := true, apart := false }
def LexerOffsetsSaid : Prop := lexerOffsetsRow.holds Try.pinned (OpenSpec.ofChange lexerOffsetsSpec)

/-- ITS FALSE NEIGHBOUR: 'it returns false'. Refute it at one input. -/
def lexerOffsetsWrong : ChangeSpec := { name := "lexerOffsets", fn := fun _ => fun
  | [d] => { results := [.lit (.bool false)], args := [d] }
  | _ => none }
def LexerOffsetsWrongFalsely : Prop := lexerOffsetsRow.holds Try.pinned (OpenSpec.ofChange lexerOffsetsWrong)

/-- 'ambidexterlaw10.LexerStable': WHATEVER THE INPUT: true; the input reads as it did. -/
def lexerStableSpec : ChangeSpec := { name := "lexerStable", fn := fun _ => fun
  | [d1, d2] => { results := [.lit (.bool true)], args := [d1, d2] }
  | _ => none }
def lexerStableRow : OpenClaim := { program := "ytiikijdkhmbdbaa", sum := "f1dc202d44614d0ef5382dd8ae3b7db8c5830707d716522693354e533862e986", func := "ambidexter/ambidexterlaw10.LexerStable", spec := "lexerStable", unfollowed := true, recurses := true, apart := false }
def LexerStableSaid : Prop := lexerStableRow.holds Try.pinned (OpenSpec.ofChange lexerStableSpec)

/-- ITS FALSE NEIGHBOUR: 'it returns false'. Refute it at one input. -/
def lexerStableWrong : ChangeSpec := { name := "lexerStable", fn := fun _ => fun
  | [d1, d2] => { results := [.lit (.bool false)], args := [d1, d2] }
  | _ => none }
def LexerStableWrongFalsely : Prop := lexerStableRow.holds Try.pinned (OpenSpec.ofChange lexerStableWrong)

/-- 'ambidexterlaw10.LexerConcatenation': WHATEVER THE INPUT: true; the input reads as it did. -/
def lexerConcatenationSpec : ChangeSpec := { name := "lexerConcatenation", fn := fun _ => fun
  | [d1, d2] => { results := [.lit (.bool true)], args := [d1, d2] }
  | _ => none }
def lexerConcatenationRow : OpenClaim := { program := "ytiikijdkhmbdbaa", sum := "f1dc202d44614d0ef5382dd8ae3b7db8c5830707d716522693354e533862e986", func := "ambidexter/ambidexterlaw10.LexerConcatenation", spec := "lexerConcatenation", unfollowed := true, recurses := true, apart := false }
def LexerConcatenationSaid : Prop := lexerConcatenationRow.holds Try.pinned (OpenSpec.ofChange lexerConcatenationSpec)

/-- ITS FALSE NEIGHBOUR: 'it returns false'. Refute it at one input. -/
def lexerConcatenationWrong : ChangeSpec := { name := "lexerConcatenation", fn := fun _ => fun
  | [d1, d2] => { results := [.lit (.bool false)], args := [d1, d2] }
  | _ => none }
def LexerConcatenationWrongFalsely : Prop := lexerConcatenationRow.holds Try.pinned (OpenSpec.ofChange lexerConcatenationWrong)

/-- 'ambidexterlaw10.LexerFirstError': WHATEVER THE INPUT: true; the input reads as it did. -/
def lexerFirstErrorSpec : ChangeSpec := { name := "lexerFirstError", fn := fun _ => fun
  | [d1, d2] => { results := [.lit (.bool true)], args := [d1, d2] }
  | _ => none }
def lexerFirstErrorRow : OpenClaim := { program := "ytiikijdkhmbdbaa", sum := "f1dc202d44614d0ef5382dd8ae3b7db8c5830707d716522693354e533862e986", func := "ambidexter/ambidexterlaw10.LexerFirstError", spec := "lexerFirstError", unfollowed := true, recurses := true, apart := false }
def LexerFirstErrorSaid : Prop := lexerFirstErrorRow.holds Try.pinned (OpenSpec.ofChange lexerFirstErrorSpec)

/-- ITS FALSE NEIGHBOUR: 'it returns false'. Refute it at one input. -/
def lexerFirstErrorWrong : ChangeSpec := { name := "lexerFirstError", fn := fun _ => fun
  | [d1, d2] => { results := [.lit (.bool false)], args := [d1, d2] }
  | _ => none }
def LexerFirstErrorWrongFalsely : Prop := lexerFirstErrorRow.holds Try.pinned (OpenSpec.ofChange lexerFirstErrorWrong)

/-- 'ambidexterlaw10.LexerNumbers': WHATEVER THE INPUT: true; the input reads as it did. -/
def lexerNumbersSpec : ChangeSpec := { name := "lexerNumbers", fn := fun _ => fun
  | [d1, d2] => { results := [.lit (.bool true)], args := [d1, d2] }
  | _ => none }
def lexerNumbersRow : OpenClaim := { program := "ytiikijdkhmbdbaa", sum := "f1dc202d44614d0ef5382dd8ae3b7db8c5830707d716522693354e533862e986", func := "ambidexter/ambidexterlaw10.LexerNumbers", spec := "lexerNumbers", unfollowed := true, recurses := true, apart := false }
def LexerNumbersSaid : Prop := lexerNumbersRow.holds Try.pinned (OpenSpec.ofChange lexerNumbersSpec)

/-- ITS FALSE NEIGHBOUR: 'it returns false'. Refute it at one input. -/
def lexerNumbersWrong : ChangeSpec := { name := "lexerNumbers", fn := fun _ => fun
  | [d1, d2] => { results := [.lit (.bool false)], args := [d1, d2] }
  | _ => none }
def LexerNumbersWrongFalsely : Prop := lexerNumbersRow.holds Try.pinned (OpenSpec.ofChange lexerNumbersWrong)

/-- 'ambidexterlaw10.LexerBig': WHATEVER THE INPUT: true; the input reads as it did. -/
def lexerBigSpec : ChangeSpec := { name := "lexerBig", fn := fun _ => fun
  | [d1, d2] => { results := [.lit (.bool true)], args := [d1, d2] }
  | _ => none }
def lexerBigRow : OpenClaim := { program := "ytiikijdkhmbdbaa", sum := "f1dc202d44614d0ef5382dd8ae3b7db8c5830707d716522693354e533862e986", func := "ambidexter/ambidexterlaw10.LexerBig", spec := "lexerBig", unfollowed := true, recurses := true, apart := false }
def LexerBigSaid : Prop := lexerBigRow.holds Try.pinned (OpenSpec.ofChange lexerBigSpec)

/-- ITS FALSE NEIGHBOUR: 'it returns false'. Refute it at one input. -/
def lexerBigWrong : ChangeSpec := { name := "lexerBig", fn := fun _ => fun
  | [d1, d2] => { results := [.lit (.bool false)], args := [d1, d2] }
  | _ => none }
def LexerBigWrongFalsely : Prop := lexerBigRow.holds Try.pinned (OpenSpec.ofChange lexerBigWrong)

/- THE SECOND FORM. 'bulk': how many values and letters a reading holds, each counted each time it is reached (what is shared counts as often as it is met; a slice's spare places count too). A statement '..UptoSaid' is the law's where the arguments, and the package variables that the reading takes, are together of bulk at most 1048576: NARROWER than '..Said'. Prove '..Said' where nothing that the law and all that it calls make is longer than what came in: it says more and counts as full. Else prove '..UptoSaid'. A law counts once. -/
mutual
def uptoBulk {H : Type} : DataW H → Nat
  | .lit (.string bytes) => bytes.length + 1
  | .lit _ => 1
  | .nil => 1
  | .ptr d => uptoBulk d + 1
  | .slice elems spare => uptoBulkAll elems + uptoBulkAll spare + 1
  | .agg parts => uptoBulkAll parts + 1
  | .iface _ d => uptoBulk d + 1
  | .map entries => uptoBulkEntries entries + 1
  | .held _ => 1
def uptoBulkAll {H : Type} : List (DataW H) → Nat
  | [] => 0
  | d :: r => uptoBulk d + uptoBulkAll r
def uptoBulkEntries {H : Type} : List (Lit × DataW H) → Nat
  | [] => 0
  | x :: r => uptoBulkEntry x + uptoBulkEntries r
def uptoBulkEntry {H : Type} : Lit × DataW H → Nat
  | (.string bytes, d) => bytes.length + uptoBulk d + 1
  | (_, d) => uptoBulk d + 1
 end
def uptoSmall : (H : Type) → List (DataW H) → Bool := fun _ ds => decide (uptoBulkAll ds ≤ 1048576)
def OpenSpec.upto (s : _root_.Go.ChangeSpec) : _root_.Go.OpenSpec := { _root_.Go.OpenSpec.ofChange s with cond := some uptoSmall }

/-- 'ambidexterlaw10.LexerMatchesReference', WHERE WHAT IT READS IS OF BULK AT MOST 1048576: true; the input reads as it did. -/
def lexerMatchesReferenceUptoRow : OpenClaim := { program := "ytiikijdkhmbdbaa", sum := "f1dc202d44614d0ef5382dd8ae3b7db8c5830707d716522693354e533862e986", func := "ambidexter/ambidexterlaw10.LexerMatchesReference", spec := "lexerMatchesReference", unfollowed := true, recurses := true, apart := false, narrowed := true }
def LexerMatchesReferenceUptoSaid : Prop := lexerMatchesReferenceUptoRow.holds Try.pinned (OpenSpec.upto lexerMatchesReferenceSpec)

/-- 'ambidexterlaw10.LexerOffsets', WHERE WHAT IT READS IS OF BULK AT MOST 1048576: true; the input reads as it did. -/
def lexerOffsetsUptoRow : OpenClaim := { program := "ytiikijdkhmbdbaa", sum := "f1dc202d44614d0ef5382dd8ae3b7db8c5830707d716522693354e533862e986", func := "ambidexter/ambidexterlaw10.LexerOffsets", spec := "lexerOffsets", unfollowed := true, recurses := true, apart := false, narrowed := true }
def LexerOffsetsUptoSaid : Prop := lexerOffsetsUptoRow.holds Try.pinned (OpenSpec.upto lexerOffsetsSpec)

/-- 'ambidexterlaw10.LexerStable', WHERE WHAT IT READS IS OF BULK AT MOST 1048576: true; the input reads as it did. -/
def lexerStableUptoRow : OpenClaim := { program := "ytiikijdkhmbdbaa", sum := "f1dc202d44614d0ef5382dd8ae3b7db8c5830707d716522693354e533862e986", func := "ambidexter/ambidexterlaw10.LexerStable", spec := "lexerStable", unfollowed := true, recurses := true, apart := false, narrowed := true }
def LexerStableUptoSaid : Prop := lexerStableUptoRow.holds Try.pinned (OpenSpec.upto lexerStableSpec)

/-- 'ambidexterlaw10.LexerConcatenation', WHERE WHAT IT READS IS OF BULK AT MOST 1048576: true; the input reads as it did. -/
def lexerConcatenationUptoRow : OpenClaim := { program := "ytiikijdkhmbdbaa", sum := "f1dc202d44614d0ef5382dd8ae3b7db8c5830707d716522693354e533862e986", func := "ambidexter/ambidexterlaw10.LexerConcatenation", spec := "lexerConcatenation", unfollowed := true, recurses := true, apart := false, narrowed := true }
def LexerConcatenationUptoSaid : Prop := lexerConcatenationUptoRow.holds Try.pinned (OpenSpec.upto lexerConcatenationSpec)

/-- 'ambidexterlaw10.LexerFirstError', WHERE WHAT IT READS IS OF BULK AT MOST 1048576: true; the input reads as it did. -/
def lexerFirstErrorUptoRow : OpenClaim := { program := "ytiikijdkhmbdbaa", sum := "f1dc202d44614d0ef5382dd8ae3b7db8c5830707d716522693354e533862e986", func := "ambidexter/ambidexterlaw10.LexerFirstError", spec := "lexerFirstError", unfollowed := true, recurses := true, apart := false, narrowed := true }
def LexerFirstErrorUptoSaid : Prop := lexerFirstErrorUptoRow.holds Try.pinned (OpenSpec.upto lexerFirstErrorSpec)

/-- 'ambidexterlaw10.LexerNumbers', WHERE WHAT IT READS IS OF BULK AT MOST 1048576: true; the input reads as it did. -/
def lexerNumbersUptoRow : OpenClaim := { program := "ytiikijdkhmbdbaa", sum := "f1dc202d44614d0ef5382dd8ae3b7db8c5830707d716522693354e533862e986", func := "ambidexter/ambidexterlaw10.LexerNumbers", spec := "lexerNumbers", unfollowed := true, recurses := true, apart := false, narrowed := true }
def LexerNumbersUptoSaid : Prop := lexerNumbersUptoRow.holds Try.pinned (OpenSpec.upto lexerNumbersSpec)

/-- 'ambidexterlaw10.LexerBig', WHERE WHAT IT READS IS OF BULK AT MOST 1048576: true; the input reads as it did. -/
def lexerBigUptoRow : OpenClaim := { program := "ytiikijdkhmbdbaa", sum := "f1dc202d44614d0ef5382dd8ae3b7db8c5830707d716522693354e533862e986", func := "ambidexter/ambidexterlaw10.LexerBig", spec := "lexerBig", unfollowed := true, recurses := true, apart := false, narrowed := true }
def LexerBigUptoSaid : Prop := lexerBigUptoRow.holds Try.pinned (OpenSpec.upto lexerBigSpec)

end Rows
end Go.Proofs.Ytiikijdkhmbdbaa
