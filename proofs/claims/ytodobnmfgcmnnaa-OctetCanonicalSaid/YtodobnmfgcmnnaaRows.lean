/-
  No cell of these rows narrows 'for every input' (looked for: loops, veiled, ifaces, maps, wideKeys, modest, calm, conditions, laid).
  DERIVED. THE GIVEN ROWS OF THIS SEAT. 8 by the template 'for every input the law returns true; each argument reads behind the call as it read before'; 0 by the template 'total and deterministic' (their statements: YtodobnmfgcmnnaaTotals.lean).
  GIVEN WITH THE SEED: the statements are not yours to turn. If you find one false, say at which input.
  Laid BY PROGRAM, IN A SANDBOX (cutbox-rows.mjs): the forced cells as the released guide's own fill.sh prints them over the translation 347e2836ed92bfc5… (all of the seat's roots in one cut). By AI agents, Wed Nov 11 2026. No macro, syntax, notation, axiom, sorry.
-/
import Derived.Test.YtodobnmfgcmnnaaChecked
import GoSem.Claim
import GoSem.ClaimJoined
import GoSem.ClaimMapViews
import Derived.JoinedTies
import Derived.KernelRfl
namespace Go.Proofs.Ytodobnmfgcmnnaa
/- THE CELL 'sum', in the pinned program and in every row, IS THE sha256 OF THE DUMP (.gsa) THAT YtodobnmfgcmnnaaProg.lean LOADS. Nothing in Lean hashes anything: it is a label: what it is worth is what the hold of that sum in a sandbox is worth. -/
noncomputable def Try.pinned : Pinned := { name := "ytodobnmfgcmnnaa", sum := "347e2836ed92bfc57d366686ff299105ef888d721a356aaf3c001817b9642858", checked := Try.checked }
namespace Rows
def none {H : Type} : Left H := { results := [], args := [] }

/-- 'chalklinelaw01.OctetInts': WHATEVER THE INPUT: true; the input reads as it did. -/
def octetIntsSpec : ChangeSpec := { name := "octetInts", fn := fun _ => fun
  | [d1, d2, d3] => { results := [.lit (.bool true)], args := [d1, d2, d3] }
  | _ => none }
def octetIntsRow : OpenClaim := { program := "ytodobnmfgcmnnaa", sum := "347e2836ed92bfc57d366686ff299105ef888d721a356aaf3c001817b9642858", func := "chalkline/chalklinelaw01.OctetInts", spec := "octetInts", unfollowed := true, recurses := true, apart := false }
def OctetIntsSaid : Prop := octetIntsRow.holds Try.pinned (OpenSpec.ofChange octetIntsSpec)

/-- ITS FALSE NEIGHBOUR: 'it returns false'. Refute it at one input. -/
def octetIntsWrong : ChangeSpec := { name := "octetInts", fn := fun _ => fun
  | [d1, d2, d3] => { results := [.lit (.bool false)], args := [d1, d2, d3] }
  | _ => none }
def OctetIntsWrongFalsely : Prop := octetIntsRow.holds Try.pinned (OpenSpec.ofChange octetIntsWrong)

/-- 'chalklinelaw01.OctetTexts': WHATEVER THE INPUT: true; the input reads as it did. -/
def octetTextsSpec : ChangeSpec := { name := "octetTexts", fn := fun _ => fun
  | [d1, d2, d3, d4] => { results := [.lit (.bool true)], args := [d1, d2, d3, d4] }
  | _ => none }
def octetTextsRow : OpenClaim := { program := "ytodobnmfgcmnnaa", sum := "347e2836ed92bfc57d366686ff299105ef888d721a356aaf3c001817b9642858", func := "chalkline/chalklinelaw01.OctetTexts", spec := "octetTexts", unfollowed := true, recurses := true, apart := false }
def OctetTextsSaid : Prop := octetTextsRow.holds Try.pinned (OpenSpec.ofChange octetTextsSpec)

/-- ITS FALSE NEIGHBOUR: 'it returns false'. Refute it at one input. -/
def octetTextsWrong : ChangeSpec := { name := "octetTexts", fn := fun _ => fun
  | [d1, d2, d3, d4] => { results := [.lit (.bool false)], args := [d1, d2, d3, d4] }
  | _ => none }
def OctetTextsWrongFalsely : Prop := octetTextsRow.holds Try.pinned (OpenSpec.ofChange octetTextsWrong)

/-- 'chalklinelaw01.OctetLists': WHATEVER THE INPUT: true; the input reads as it did. -/
def octetListsSpec : ChangeSpec := { name := "octetLists", fn := fun _ => fun
  | [d1, d2, d3, d4] => { results := [.lit (.bool true)], args := [d1, d2, d3, d4] }
  | _ => none }
def octetListsRow : OpenClaim := { program := "ytodobnmfgcmnnaa", sum := "347e2836ed92bfc57d366686ff299105ef888d721a356aaf3c001817b9642858", func := "chalkline/chalklinelaw01.OctetLists", spec := "octetLists", unfollowed := true, recurses := true, apart := false }
def OctetListsSaid : Prop := octetListsRow.holds Try.pinned (OpenSpec.ofChange octetListsSpec)

/-- ITS FALSE NEIGHBOUR: 'it returns false'. Refute it at one input. -/
def octetListsWrong : ChangeSpec := { name := "octetLists", fn := fun _ => fun
  | [d1, d2, d3, d4] => { results := [.lit (.bool false)], args := [d1, d2, d3, d4] }
  | _ => none }
def OctetListsWrongFalsely : Prop := octetListsRow.holds Try.pinned (OpenSpec.ofChange octetListsWrong)

/-- 'chalklinelaw01.OctetRoundTrip': WHATEVER THE INPUT: true; the input reads as it did. -/
def octetRoundTripSpec : ChangeSpec := { name := "octetRoundTrip", fn := fun _ => fun
  | [d1, d2, d3, d4] => { results := [.lit (.bool true)], args := [d1, d2, d3, d4] }
  | _ => none }
def octetRoundTripRow : OpenClaim := { program := "ytodobnmfgcmnnaa", sum := "347e2836ed92bfc57d366686ff299105ef888d721a356aaf3c001817b9642858", func := "chalkline/chalklinelaw01.OctetRoundTrip", spec := "octetRoundTrip", unfollowed := true, recurses := true, apart := false }
def OctetRoundTripSaid : Prop := octetRoundTripRow.holds Try.pinned (OpenSpec.ofChange octetRoundTripSpec)

/-- ITS FALSE NEIGHBOUR: 'it returns false'. Refute it at one input. -/
def octetRoundTripWrong : ChangeSpec := { name := "octetRoundTrip", fn := fun _ => fun
  | [d1, d2, d3, d4] => { results := [.lit (.bool false)], args := [d1, d2, d3, d4] }
  | _ => none }
def OctetRoundTripWrongFalsely : Prop := octetRoundTripRow.holds Try.pinned (OpenSpec.ofChange octetRoundTripWrong)

/-- 'chalklinelaw01.OctetCanonical': WHATEVER THE INPUT: true; the input reads as it did. -/
def octetCanonicalSpec : ChangeSpec := { name := "octetCanonical", fn := fun _ => fun
  | [d1, d2, d3] => { results := [.lit (.bool true)], args := [d1, d2, d3] }
  | _ => none }
def octetCanonicalRow : OpenClaim := { program := "ytodobnmfgcmnnaa", sum := "347e2836ed92bfc57d366686ff299105ef888d721a356aaf3c001817b9642858", func := "chalkline/chalklinelaw01.OctetCanonical", spec := "octetCanonical", unfollowed := true, recurses := true, apart := false }
def OctetCanonicalSaid : Prop := octetCanonicalRow.holds Try.pinned (OpenSpec.ofChange octetCanonicalSpec)

/-- ITS FALSE NEIGHBOUR: 'it returns false'. Refute it at one input. -/
def octetCanonicalWrong : ChangeSpec := { name := "octetCanonical", fn := fun _ => fun
  | [d1, d2, d3] => { results := [.lit (.bool false)], args := [d1, d2, d3] }
  | _ => none }
def OctetCanonicalWrongFalsely : Prop := octetCanonicalRow.holds Try.pinned (OpenSpec.ofChange octetCanonicalWrong)

/-- 'chalklinelaw01.OctetTruncated': WHATEVER THE INPUT: true; the input reads as it did. -/
def octetTruncatedSpec : ChangeSpec := { name := "octetTruncated", fn := fun _ => fun
  | [d1, d2, d3, d4] => { results := [.lit (.bool true)], args := [d1, d2, d3, d4] }
  | _ => none }
def octetTruncatedRow : OpenClaim := { program := "ytodobnmfgcmnnaa", sum := "347e2836ed92bfc57d366686ff299105ef888d721a356aaf3c001817b9642858", func := "chalkline/chalklinelaw01.OctetTruncated", spec := "octetTruncated", unfollowed := true, recurses := true, apart := false }
def OctetTruncatedSaid : Prop := octetTruncatedRow.holds Try.pinned (OpenSpec.ofChange octetTruncatedSpec)

/-- ITS FALSE NEIGHBOUR: 'it returns false'. Refute it at one input. -/
def octetTruncatedWrong : ChangeSpec := { name := "octetTruncated", fn := fun _ => fun
  | [d1, d2, d3, d4] => { results := [.lit (.bool false)], args := [d1, d2, d3, d4] }
  | _ => none }
def OctetTruncatedWrongFalsely : Prop := octetTruncatedRow.holds Try.pinned (OpenSpec.ofChange octetTruncatedWrong)

/-- 'chalklinelaw01.OctetLength': WHATEVER THE INPUT: true; the input reads as it did. -/
def octetLengthSpec : ChangeSpec := { name := "octetLength", fn := fun _ => fun
  | [d1, d2] => { results := [.lit (.bool true)], args := [d1, d2] }
  | _ => none }
def octetLengthRow : OpenClaim := { program := "ytodobnmfgcmnnaa", sum := "347e2836ed92bfc57d366686ff299105ef888d721a356aaf3c001817b9642858", func := "chalkline/chalklinelaw01.OctetLength", spec := "octetLength", unfollowed := true, recurses := true, apart := false }
def OctetLengthSaid : Prop := octetLengthRow.holds Try.pinned (OpenSpec.ofChange octetLengthSpec)

/-- ITS FALSE NEIGHBOUR: 'it returns false'. Refute it at one input. -/
def octetLengthWrong : ChangeSpec := { name := "octetLength", fn := fun _ => fun
  | [d1, d2] => { results := [.lit (.bool false)], args := [d1, d2] }
  | _ => none }
def OctetLengthWrongFalsely : Prop := octetLengthRow.holds Try.pinned (OpenSpec.ofChange octetLengthWrong)

/-- 'chalklinelaw01.OctetSequence': WHATEVER THE INPUT: true; the input reads as it did. -/
def octetSequenceSpec : ChangeSpec := { name := "octetSequence", fn := fun _ => fun
  | [d1, d2] => { results := [.lit (.bool true)], args := [d1, d2] }
  | _ => none }
def octetSequenceRow : OpenClaim := { program := "ytodobnmfgcmnnaa", sum := "347e2836ed92bfc57d366686ff299105ef888d721a356aaf3c001817b9642858", func := "chalkline/chalklinelaw01.OctetSequence", spec := "octetSequence", unfollowed := true, recurses := true, apart := false }
def OctetSequenceSaid : Prop := octetSequenceRow.holds Try.pinned (OpenSpec.ofChange octetSequenceSpec)

/-- ITS FALSE NEIGHBOUR: 'it returns false'. Refute it at one input. -/
def octetSequenceWrong : ChangeSpec := { name := "octetSequence", fn := fun _ => fun
  | [d1, d2] => { results := [.lit (.bool false)], args := [d1, d2] }
  | _ => none }
def OctetSequenceWrongFalsely : Prop := octetSequenceRow.holds Try.pinned (OpenSpec.ofChange octetSequenceWrong)

/- THE SECOND FORM. 'bulk': how many values and letters a reading holds, each counted each time it is reached (what is shared counts as often as it is met; a slice's spare places count too). A statement '..UptoSaid' is the law's where the arguments, and the package variables that the reading takes, are together of bulk at most 1048576: NARROWER than '..Said'. Prove '..Said' where nothing that the law and all that it calls make is longer than what came in: it says more and counts as full. Else prove '..UptoSaid'. A law counts once. -/
mutual
def uptoBulk {H : Type} : DataW H → Nat
  | .lit (.string bytes) => bytes.length + 1
  | .lit _ => 1
  | .nil => 1
  | .ptr d => uptoBulk d + 1
  | .slice elems spare => uptoBulkAll elems + uptoBulkAll spare + 1
  | .agg parts => uptoBulkAll parts + 1
  | .iface _ d => uptoBulk d + 1
  | .map entries => uptoBulkEntries entries + 1
  | .held _ => 1
def uptoBulkAll {H : Type} : List (DataW H) → Nat
  | [] => 0
  | d :: r => uptoBulk d + uptoBulkAll r
def uptoBulkEntries {H : Type} : List (Lit × DataW H) → Nat
  | [] => 0
  | x :: r => uptoBulkEntry x + uptoBulkEntries r
def uptoBulkEntry {H : Type} : Lit × DataW H → Nat
  | (.string bytes, d) => bytes.length + uptoBulk d + 1
  | (_, d) => uptoBulk d + 1
 end
def uptoSmall : (H : Type) → List (DataW H) → Bool := fun _ ds => decide (uptoBulkAll ds ≤ 1048576)
def OpenSpec.upto (s : _root_.Go.ChangeSpec) : _root_.Go.OpenSpec := { _root_.Go.OpenSpec.ofChange s with cond := some uptoSmall }

/-- 'chalklinelaw01.OctetInts', WHERE WHAT IT READS IS OF BULK AT MOST 1048576: true; the input reads as it did. -/
def octetIntsUptoRow : OpenClaim := { program := "ytodobnmfgcmnnaa", sum := "347e2836ed92bfc57d366686ff299105ef888d721a356aaf3c001817b9642858", func := "chalkline/chalklinelaw01.OctetInts", spec := "octetInts", unfollowed := true, recurses := true, apart := false, narrowed := true }
def OctetIntsUptoSaid : Prop := octetIntsUptoRow.holds Try.pinned (OpenSpec.upto octetIntsSpec)

/-- 'chalklinelaw01.OctetTexts', WHERE WHAT IT READS IS OF BULK AT MOST 1048576: true; the input reads as it did. -/
def octetTextsUptoRow : OpenClaim := { program := "ytodobnmfgcmnnaa", sum := "347e2836ed92bfc57d366686ff299105ef888d721a356aaf3c001817b9642858", func := "chalkline/chalklinelaw01.OctetTexts", spec := "octetTexts", unfollowed := true, recurses := true, apart := false, narrowed := true }
def OctetTextsUptoSaid : Prop := octetTextsUptoRow.holds Try.pinned (OpenSpec.upto octetTextsSpec)

/-- 'chalklinelaw01.OctetLists', WHERE WHAT IT READS IS OF BULK AT MOST 1048576: true; the input reads as it did. -/
def octetListsUptoRow : OpenClaim := { program := "ytodobnmfgcmnnaa", sum := "347e2836ed92bfc57d366686ff299105ef888d721a356aaf3c001817b9642858", func := "chalkline/chalklinelaw01.OctetLists", spec := "octetLists", unfollowed := true, recurses := true, apart := false, narrowed := true }
def OctetListsUptoSaid : Prop := octetListsUptoRow.holds Try.pinned (OpenSpec.upto octetListsSpec)

/-- 'chalklinelaw01.OctetRoundTrip', WHERE WHAT IT READS IS OF BULK AT MOST 1048576: true; the input reads as it did. -/
def octetRoundTripUptoRow : OpenClaim := { program := "ytodobnmfgcmnnaa", sum := "347e2836ed92bfc57d366686ff299105ef888d721a356aaf3c001817b9642858", func := "chalkline/chalklinelaw01.OctetRoundTrip", spec := "octetRoundTrip", unfollowed := true, recurses := true, apart := false, narrowed := true }
def OctetRoundTripUptoSaid : Prop := octetRoundTripUptoRow.holds Try.pinned (OpenSpec.upto octetRoundTripSpec)

/-- 'chalklinelaw01.OctetCanonical', WHERE WHAT IT READS IS OF BULK AT MOST 1048576: true; the input reads as it did. -/
def octetCanonicalUptoRow : OpenClaim := { program := "ytodobnmfgcmnnaa", sum := "347e2836ed92bfc57d366686ff299105ef888d721a356aaf3c001817b9642858", func := "chalkline/chalklinelaw01.OctetCanonical", spec := "octetCanonical", unfollowed := true, recurses := true, apart := false, narrowed := true }
def OctetCanonicalUptoSaid : Prop := octetCanonicalUptoRow.holds Try.pinned (OpenSpec.upto octetCanonicalSpec)

/-- 'chalklinelaw01.OctetTruncated', WHERE WHAT IT READS IS OF BULK AT MOST 1048576: true; the input reads as it did. -/
def octetTruncatedUptoRow : OpenClaim := { program := "ytodobnmfgcmnnaa", sum := "347e2836ed92bfc57d366686ff299105ef888d721a356aaf3c001817b9642858", func := "chalkline/chalklinelaw01.OctetTruncated", spec := "octetTruncated", unfollowed := true, recurses := true, apart := false, narrowed := true }
def OctetTruncatedUptoSaid : Prop := octetTruncatedUptoRow.holds Try.pinned (OpenSpec.upto octetTruncatedSpec)

/-- 'chalklinelaw01.OctetLength', WHERE WHAT IT READS IS OF BULK AT MOST 1048576: true; the input reads as it did. -/
def octetLengthUptoRow : OpenClaim := { program := "ytodobnmfgcmnnaa", sum := "347e2836ed92bfc57d366686ff299105ef888d721a356aaf3c001817b9642858", func := "chalkline/chalklinelaw01.OctetLength", spec := "octetLength", unfollowed := true, recurses := true, apart := false, narrowed := true }
def OctetLengthUptoSaid : Prop := octetLengthUptoRow.holds Try.pinned (OpenSpec.upto octetLengthSpec)

/-- 'chalklinelaw01.OctetSequence', WHERE WHAT IT READS IS OF BULK AT MOST 1048576: true; the input reads as it did. -/
def octetSequenceUptoRow : OpenClaim := { program := "ytodobnmfgcmnnaa", sum := "347e2836ed92bfc57d366686ff299105ef888d721a356aaf3c001817b9642858", func := "chalkline/chalklinelaw01.OctetSequence", spec := "octetSequence", unfollowed := true, recurses := true, apart := false, narrowed := true }
def OctetSequenceUptoSaid : Prop := octetSequenceUptoRow.holds Try.pinned (OpenSpec.upto octetSequenceSpec)

end Rows
end Go.Proofs.Ytodobnmfgcmnnaa
