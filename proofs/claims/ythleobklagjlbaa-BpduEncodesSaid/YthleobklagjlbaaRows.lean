/-
  No cell of these rows narrows 'for every input' (looked for: loops, veiled, ifaces, maps, wideKeys, modest, calm, conditions, laid).
  DERIVED. THE GIVEN ROWS OF THIS SEAT. 6 by the template 'for every input the law returns true; each argument reads behind the call as it read before'; 0 by the template 'total and deterministic' (their statements: YthleobklagjlbaaTotals.lean).
  GIVEN WITH THE SEED: the statements are not yours to turn. If you find one false, say at which input.
  Laid BY PROGRAM, IN A SANDBOX (cutbox-rows.mjs): the forced cells as the released guide's own fill.sh prints them over the translation 61dc0b020a53c8e9… (all of the seat's roots in one cut). By AI agents, Wed Nov 11 2026. No macro, syntax, notation, axiom, sorry.
-/
import Derived.Test.YthleobklagjlbaaChecked
import GoSem.Claim
import GoSem.ClaimJoined
import GoSem.ClaimMapViews
import Derived.JoinedTies
import Derived.KernelRfl
namespace Go.Proofs.Ythleobklagjlbaa
/- THE CELL 'sum', in the pinned program and in every row, IS THE sha256 OF THE DUMP (.gsa) THAT YthleobklagjlbaaProg.lean LOADS. Nothing in Lean hashes anything: it is a label: what it is worth is what the hold of that sum in a sandbox is worth. -/
noncomputable def Try.pinned : Pinned := { name := "ythleobklagjlbaa", sum := "61dc0b020a53c8e9206d8ca3428698c96758b24b0eb85ae10649acc14e72235f", checked := Try.checked }
namespace Rows
def none {H : Type} : Left H := { results := [], args := [] }

/-- 'siphonlaw06.BpduDecodes': WHATEVER THE INPUT: true; the input reads as it did. -/
def bpduDecodesSpec : ChangeSpec := { name := "bpduDecodes", fn := fun _ => fun
  | [d] => { results := [.lit (.bool true)], args := [d] }
  | _ => none }
def bpduDecodesRow : OpenClaim := { program := "ythleobklagjlbaa", sum := "61dc0b020a53c8e9206d8ca3428698c96758b24b0eb85ae10649acc14e72235f", func := "siphon/siphonlaw06.BpduDecodes", spec := "bpduDecodes", unfollowed := true, recurses := true, apart := false }
def BpduDecodesSaid : Prop := bpduDecodesRow.holds Try.pinned (OpenSpec.ofChange bpduDecodesSpec)

/-- ITS FALSE NEIGHBOUR: 'it returns false'. Refute it at one input. -/
def bpduDecodesWrong : ChangeSpec := { name := "bpduDecodes", fn := fun _ => fun
  | [d] => { results := [.lit (.bool false)], args := [d] }
  | _ => none }
def BpduDecodesWrongFalsely : Prop := bpduDecodesRow.holds Try.pinned (OpenSpec.ofChange bpduDecodesWrong)

/-- 'siphonlaw06.BpduEncodes': WHATEVER THE INPUT: true; the input reads as it did. -/
def bpduEncodesSpec : ChangeSpec := { name := "bpduEncodes", fn := fun _ => fun
  | [d] => { results := [.lit (.bool true)], args := [d] }
  | _ => none }
def bpduEncodesRow : OpenClaim := { program := "ythleobklagjlbaa", sum := "61dc0b020a53c8e9206d8ca3428698c96758b24b0eb85ae10649acc14e72235f", func := "siphon/siphonlaw06.BpduEncodes", spec := "bpduEncodes", unfollowed := true, recurses := true, apart := false }
def BpduEncodesSaid : Prop := bpduEncodesRow.holds Try.pinned (OpenSpec.ofChange bpduEncodesSpec)

/-- ITS FALSE NEIGHBOUR: 'it returns false'. Refute it at one input. -/
def bpduEncodesWrong : ChangeSpec := { name := "bpduEncodes", fn := fun _ => fun
  | [d] => { results := [.lit (.bool false)], args := [d] }
  | _ => none }
def BpduEncodesWrongFalsely : Prop := bpduEncodesRow.holds Try.pinned (OpenSpec.ofChange bpduEncodesWrong)

/-- 'siphonlaw06.BpduBack': WHATEVER THE INPUT: true; the input reads as it did. -/
def bpduBackSpec : ChangeSpec := { name := "bpduBack", fn := fun _ => fun
  | [d1, d2] => { results := [.lit (.bool true)], args := [d1, d2] }
  | _ => none }
def bpduBackRow : OpenClaim := { program := "ythleobklagjlbaa", sum := "61dc0b020a53c8e9206d8ca3428698c96758b24b0eb85ae10649acc14e72235f", func := "siphon/siphonlaw06.BpduBack", spec := "bpduBack", unfollowed := true, recurses := true, apart := false }
def BpduBackSaid : Prop := bpduBackRow.holds Try.pinned (OpenSpec.ofChange bpduBackSpec)

/-- ITS FALSE NEIGHBOUR: 'it returns false'. Refute it at one input. -/
def bpduBackWrong : ChangeSpec := { name := "bpduBack", fn := fun _ => fun
  | [d1, d2] => { results := [.lit (.bool false)], args := [d1, d2] }
  | _ => none }
def BpduBackWrongFalsely : Prop := bpduBackRow.holds Try.pinned (OpenSpec.ofChange bpduBackWrong)

/-- 'siphonlaw06.BpduForth': WHATEVER THE INPUT: true; the input reads as it did. -/
def bpduForthSpec : ChangeSpec := { name := "bpduForth", fn := fun _ => fun
  | [d] => { results := [.lit (.bool true)], args := [d] }
  | _ => none }
def bpduForthRow : OpenClaim := { program := "ythleobklagjlbaa", sum := "61dc0b020a53c8e9206d8ca3428698c96758b24b0eb85ae10649acc14e72235f", func := "siphon/siphonlaw06.BpduForth", spec := "bpduForth", unfollowed := true, recurses := true, apart := false }
def BpduForthSaid : Prop := bpduForthRow.holds Try.pinned (OpenSpec.ofChange bpduForthSpec)

/-- ITS FALSE NEIGHBOUR: 'it returns false'. Refute it at one input. -/
def bpduForthWrong : ChangeSpec := { name := "bpduForth", fn := fun _ => fun
  | [d] => { results := [.lit (.bool false)], args := [d] }
  | _ => none }
def BpduForthWrongFalsely : Prop := bpduForthRow.holds Try.pinned (OpenSpec.ofChange bpduForthWrong)

/-- 'siphonlaw06.BpduShort': WHATEVER THE INPUT: true; the input reads as it did. -/
def bpduShortSpec : ChangeSpec := { name := "bpduShort", fn := fun _ => fun
  | [d1, d2, d3] => { results := [.lit (.bool true)], args := [d1, d2, d3] }
  | _ => none }
def bpduShortRow : OpenClaim := { program := "ythleobklagjlbaa", sum := "61dc0b020a53c8e9206d8ca3428698c96758b24b0eb85ae10649acc14e72235f", func := "siphon/siphonlaw06.BpduShort", spec := "bpduShort", unfollowed := true, recurses := true, apart := false }
def BpduShortSaid : Prop := bpduShortRow.holds Try.pinned (OpenSpec.ofChange bpduShortSpec)

/-- ITS FALSE NEIGHBOUR: 'it returns false'. Refute it at one input. -/
def bpduShortWrong : ChangeSpec := { name := "bpduShort", fn := fun _ => fun
  | [d1, d2, d3] => { results := [.lit (.bool false)], args := [d1, d2, d3] }
  | _ => none }
def BpduShortWrongFalsely : Prop := bpduShortRow.holds Try.pinned (OpenSpec.ofChange bpduShortWrong)

/-- 'siphonlaw06.BpduFree': WHATEVER THE INPUT: true; the input reads as it did. -/
def bpduFreeSpec : ChangeSpec := { name := "bpduFree", fn := fun _ => fun
  | [d1, d2, d3] => { results := [.lit (.bool true)], args := [d1, d2, d3] }
  | _ => none }
def bpduFreeRow : OpenClaim := { program := "ythleobklagjlbaa", sum := "61dc0b020a53c8e9206d8ca3428698c96758b24b0eb85ae10649acc14e72235f", func := "siphon/siphonlaw06.BpduFree", spec := "bpduFree", unfollowed := true, recurses := true, apart := false }
def BpduFreeSaid : Prop := bpduFreeRow.holds Try.pinned (OpenSpec.ofChange bpduFreeSpec)

/-- ITS FALSE NEIGHBOUR: 'it returns false'. Refute it at one input. -/
def bpduFreeWrong : ChangeSpec := { name := "bpduFree", fn := fun _ => fun
  | [d1, d2, d3] => { results := [.lit (.bool false)], args := [d1, d2, d3] }
  | _ => none }
def BpduFreeWrongFalsely : Prop := bpduFreeRow.holds Try.pinned (OpenSpec.ofChange bpduFreeWrong)

/- THE SECOND FORM. 'bulk': how many values and letters a reading holds, each counted each time it is reached (what is shared counts as often as it is met; a slice's spare places count too). A statement '..UptoSaid' is the law's where the arguments, and the package variables that the reading takes, are together of bulk at most 1048576: NARROWER than '..Said'. Prove '..Said' where nothing that the law and all that it calls make is longer than what came in: it says more and counts as full. Else prove '..UptoSaid'. A law counts once. -/
mutual
def uptoBulk {H : Type} : DataW H → Nat
  | .lit (.string bytes) => bytes.length + 1
  | .lit _ => 1
  | .nil => 1
  | .ptr d => uptoBulk d + 1
  | .slice elems spare => uptoBulkAll elems + uptoBulkAll spare + 1
  | .agg parts => uptoBulkAll parts + 1
  | .iface _ d => uptoBulk d + 1
  | .map entries => uptoBulkEntries entries + 1
  | .held _ => 1
def uptoBulkAll {H : Type} : List (DataW H) → Nat
  | [] => 0
  | d :: r => uptoBulk d + uptoBulkAll r
def uptoBulkEntries {H : Type} : List (Lit × DataW H) → Nat
  | [] => 0
  | x :: r => uptoBulkEntry x + uptoBulkEntries r
def uptoBulkEntry {H : Type} : Lit × DataW H → Nat
  | (.string bytes, d) => bytes.length + uptoBulk d + 1
  | (_, d) => uptoBulk d + 1
 end
def uptoSmall : (H : Type) → List (DataW H) → Bool := fun _ ds => decide (uptoBulkAll ds ≤ 1048576)
def OpenSpec.upto (s : _root_.Go.ChangeSpec) : _root_.Go.OpenSpec := { _root_.Go.OpenSpec.ofChange s with cond := some uptoSmall }

/-- 'siphonlaw06.BpduDecodes', WHERE WHAT IT READS IS OF BULK AT MOST 1048576: true; the input reads as it did. -/
def bpduDecodesUptoRow : OpenClaim := { program := "ythleobklagjlbaa", sum := "61dc0b020a53c8e9206d8ca3428698c96758b24b0eb85ae10649acc14e72235f", func := "siphon/siphonlaw06.BpduDecodes", spec := "bpduDecodes", unfollowed := true, recurses := true, apart := false, narrowed := true }
def BpduDecodesUptoSaid : Prop := bpduDecodesUptoRow.holds Try.pinned (OpenSpec.upto bpduDecodesSpec)

/-- 'siphonlaw06.BpduEncodes', WHERE WHAT IT READS IS OF BULK AT MOST 1048576: true; the input reads as it did. -/
def bpduEncodesUptoRow : OpenClaim := { program := "ythleobklagjlbaa", sum := "61dc0b020a53c8e9206d8ca3428698c96758b24b0eb85ae10649acc14e72235f", func := "siphon/siphonlaw06.BpduEncodes", spec := "bpduEncodes", unfollowed := true, recurses := true, apart := false, narrowed := true }
def BpduEncodesUptoSaid : Prop := bpduEncodesUptoRow.holds Try.pinned (OpenSpec.upto bpduEncodesSpec)

/-- 'siphonlaw06.BpduBack', WHERE WHAT IT READS IS OF BULK AT MOST 1048576: true; the input reads as it did. -/
def bpduBackUptoRow : OpenClaim := { program := "ythleobklagjlbaa", sum := "61dc0b020a53c8e9206d8ca3428698c96758b24b0eb85ae10649acc14e72235f", func := "siphon/siphonlaw06.BpduBack", spec := "bpduBack", unfollowed := true, recurses := true, apart := false, narrowed := true }
def BpduBackUptoSaid : Prop := bpduBackUptoRow.holds Try.pinned (OpenSpec.upto bpduBackSpec)

/-- 'siphonlaw06.BpduForth', WHERE WHAT IT READS IS OF BULK AT MOST 1048576: true; the input reads as it did. -/
def bpduForthUptoRow : OpenClaim := { program := "ythleobklagjlbaa", sum := "61dc0b020a53c8e9206d8ca3428698c96758b24b0eb85ae10649acc14e72235f", func := "siphon/siphonlaw06.BpduForth", spec := "bpduForth", unfollowed := true, recurses := true, apart := false, narrowed := true }
def BpduForthUptoSaid : Prop := bpduForthUptoRow.holds Try.pinned (OpenSpec.upto bpduForthSpec)

/-- 'siphonlaw06.BpduShort', WHERE WHAT IT READS IS OF BULK AT MOST 1048576: true; the input reads as it did. -/
def bpduShortUptoRow : OpenClaim := { program := "ythleobklagjlbaa", sum := "61dc0b020a53c8e9206d8ca3428698c96758b24b0eb85ae10649acc14e72235f", func := "siphon/siphonlaw06.BpduShort", spec := "bpduShort", unfollowed := true, recurses := true, apart := false, narrowed := true }
def BpduShortUptoSaid : Prop := bpduShortUptoRow.holds Try.pinned (OpenSpec.upto bpduShortSpec)

/-- 'siphonlaw06.BpduFree', WHERE WHAT IT READS IS OF BULK AT MOST 1048576: true; the input reads as it did. -/
def bpduFreeUptoRow : OpenClaim := { program := "ythleobklagjlbaa", sum := "61dc0b020a53c8e9206d8ca3428698c96758b24b0eb85ae10649acc14e72235f", func := "siphon/siphonlaw06.BpduFree", spec := "bpduFree", unfollowed := true, recurses := true, apart := false, narrowed := true }
def BpduFreeUptoSaid : Prop := bpduFreeUptoRow.holds Try.pinned (OpenSpec.upto bpduFreeSpec)

end Rows
end Go.Proofs.Ythleobklagjlbaa
