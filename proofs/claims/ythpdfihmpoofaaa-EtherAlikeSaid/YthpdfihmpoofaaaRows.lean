/-
  No cell of these rows narrows 'for every input' (looked for: loops, veiled, ifaces, maps, wideKeys, modest, calm, conditions, laid).
  DERIVED. THE GIVEN ROWS OF THIS SEAT. 7 by the template 'for every input the law returns true; each argument reads behind the call as it read before'; 0 by the template 'total and deterministic' (their statements: YthpdfihmpoofaaaTotals.lean).
  GIVEN WITH THE SEED: the statements are not yours to turn. If you find one false, say at which input.
  Laid BY PROGRAM, IN A SANDBOX (cutbox-rows.mjs): the forced cells as the released guide's own fill.sh prints them over the translation 9be7fdec90e08ed1… (all of the seat's roots in one cut). By AI agents, Wed Nov 11 2026. No macro, syntax, notation, axiom, sorry.
-/
import Derived.Test.YthpdfihmpoofaaaChecked
import GoSem.Claim
import GoSem.ClaimJoined
import GoSem.ClaimMapViews
import Derived.JoinedTies
import Derived.KernelRfl
namespace Go.Proofs.Ythpdfihmpoofaaa
/- THE CELL 'sum', in the pinned program and in every row, IS THE sha256 OF THE DUMP (.gsa) THAT YthpdfihmpoofaaaProg.lean LOADS. Nothing in Lean hashes anything: it is a label: what it is worth is what the hold of that sum in a sandbox is worth. -/
noncomputable def Try.pinned : Pinned := { name := "ythpdfihmpoofaaa", sum := "9be7fdec90e08ed15a9b75e49996436824ce459fa8db4576befc80aed1755fc7", checked := Try.checked }
namespace Rows
def none {H : Type} : Left H := { results := [], args := [] }

/-- 'siphonlaw03.EtherDecodes': WHATEVER THE INPUT: true; the input reads as it did. -/
def etherDecodesSpec : ChangeSpec := { name := "etherDecodes", fn := fun _ => fun
  | [d] => { results := [.lit (.bool true)], args := [d] }
  | _ => none }
def etherDecodesRow : OpenClaim := { program := "ythpdfihmpoofaaa", sum := "9be7fdec90e08ed15a9b75e49996436824ce459fa8db4576befc80aed1755fc7", func := "siphon/siphonlaw03.EtherDecodes", spec := "etherDecodes", inPlace := ["internal/abi.NoEscape"], unfollowed := true, recurses := true, apart := false }
def EtherDecodesSaid : Prop := etherDecodesRow.holds Try.pinned (OpenSpec.ofChange etherDecodesSpec)

/-- ITS FALSE NEIGHBOUR: 'it returns false'. Refute it at one input. -/
def etherDecodesWrong : ChangeSpec := { name := "etherDecodes", fn := fun _ => fun
  | [d] => { results := [.lit (.bool false)], args := [d] }
  | _ => none }
def EtherDecodesWrongFalsely : Prop := etherDecodesRow.holds Try.pinned (OpenSpec.ofChange etherDecodesWrong)

/-- 'siphonlaw03.EtherEncodes': WHATEVER THE INPUT: true; the input reads as it did. -/
def etherEncodesSpec : ChangeSpec := { name := "etherEncodes", fn := fun _ => fun
  | [d] => { results := [.lit (.bool true)], args := [d] }
  | _ => none }
def etherEncodesRow : OpenClaim := { program := "ythpdfihmpoofaaa", sum := "9be7fdec90e08ed15a9b75e49996436824ce459fa8db4576befc80aed1755fc7", func := "siphon/siphonlaw03.EtherEncodes", spec := "etherEncodes", inPlace := ["internal/abi.NoEscape"], unfollowed := true, recurses := true, apart := false }
def EtherEncodesSaid : Prop := etherEncodesRow.holds Try.pinned (OpenSpec.ofChange etherEncodesSpec)

/-- ITS FALSE NEIGHBOUR: 'it returns false'. Refute it at one input. -/
def etherEncodesWrong : ChangeSpec := { name := "etherEncodes", fn := fun _ => fun
  | [d] => { results := [.lit (.bool false)], args := [d] }
  | _ => none }
def EtherEncodesWrongFalsely : Prop := etherEncodesRow.holds Try.pinned (OpenSpec.ofChange etherEncodesWrong)

/-- 'siphonlaw03.EtherBack': WHATEVER THE INPUT: true; the input reads as it did. -/
def etherBackSpec : ChangeSpec := { name := "etherBack", fn := fun _ => fun
  | [d] => { results := [.lit (.bool true)], args := [d] }
  | _ => none }
def etherBackRow : OpenClaim := { program := "ythpdfihmpoofaaa", sum := "9be7fdec90e08ed15a9b75e49996436824ce459fa8db4576befc80aed1755fc7", func := "siphon/siphonlaw03.EtherBack", spec := "etherBack", inPlace := ["internal/abi.NoEscape"], unfollowed := true, recurses := true, apart := false }
def EtherBackSaid : Prop := etherBackRow.holds Try.pinned (OpenSpec.ofChange etherBackSpec)

/-- ITS FALSE NEIGHBOUR: 'it returns false'. Refute it at one input. -/
def etherBackWrong : ChangeSpec := { name := "etherBack", fn := fun _ => fun
  | [d] => { results := [.lit (.bool false)], args := [d] }
  | _ => none }
def EtherBackWrongFalsely : Prop := etherBackRow.holds Try.pinned (OpenSpec.ofChange etherBackWrong)

/-- 'siphonlaw03.EtherForth': WHATEVER THE INPUT: true; the input reads as it did. -/
def etherForthSpec : ChangeSpec := { name := "etherForth", fn := fun _ => fun
  | [d] => { results := [.lit (.bool true)], args := [d] }
  | _ => none }
def etherForthRow : OpenClaim := { program := "ythpdfihmpoofaaa", sum := "9be7fdec90e08ed15a9b75e49996436824ce459fa8db4576befc80aed1755fc7", func := "siphon/siphonlaw03.EtherForth", spec := "etherForth", inPlace := ["internal/abi.NoEscape"], unfollowed := true, recurses := true, apart := false }
def EtherForthSaid : Prop := etherForthRow.holds Try.pinned (OpenSpec.ofChange etherForthSpec)

/-- ITS FALSE NEIGHBOUR: 'it returns false'. Refute it at one input. -/
def etherForthWrong : ChangeSpec := { name := "etherForth", fn := fun _ => fun
  | [d] => { results := [.lit (.bool false)], args := [d] }
  | _ => none }
def EtherForthWrongFalsely : Prop := etherForthRow.holds Try.pinned (OpenSpec.ofChange etherForthWrong)

/-- 'siphonlaw03.EtherTags': WHATEVER THE INPUT: true; the input reads as it did. -/
def etherTagsSpec : ChangeSpec := { name := "etherTags", fn := fun _ => fun
  | [d1, d2, d3] => { results := [.lit (.bool true)], args := [d1, d2, d3] }
  | _ => none }
def etherTagsRow : OpenClaim := { program := "ythpdfihmpoofaaa", sum := "9be7fdec90e08ed15a9b75e49996436824ce459fa8db4576befc80aed1755fc7", func := "siphon/siphonlaw03.EtherTags", spec := "etherTags", inPlace := ["internal/abi.NoEscape"], unfollowed := true, recurses := true, apart := false }
def EtherTagsSaid : Prop := etherTagsRow.holds Try.pinned (OpenSpec.ofChange etherTagsSpec)

/-- ITS FALSE NEIGHBOUR: 'it returns false'. Refute it at one input. -/
def etherTagsWrong : ChangeSpec := { name := "etherTags", fn := fun _ => fun
  | [d1, d2, d3] => { results := [.lit (.bool false)], args := [d1, d2, d3] }
  | _ => none }
def EtherTagsWrongFalsely : Prop := etherTagsRow.holds Try.pinned (OpenSpec.ofChange etherTagsWrong)

/-- 'siphonlaw03.EtherAlike': WHATEVER THE INPUT: true; the input reads as it did. -/
def etherAlikeSpec : ChangeSpec := { name := "etherAlike", fn := fun _ => fun
  | [d] => { results := [.lit (.bool true)], args := [d] }
  | _ => none }
def etherAlikeRow : OpenClaim := { program := "ythpdfihmpoofaaa", sum := "9be7fdec90e08ed15a9b75e49996436824ce459fa8db4576befc80aed1755fc7", func := "siphon/siphonlaw03.EtherAlike", spec := "etherAlike", inPlace := ["internal/abi.NoEscape"], unfollowed := true, recurses := true, apart := false }
def EtherAlikeSaid : Prop := etherAlikeRow.holds Try.pinned (OpenSpec.ofChange etherAlikeSpec)

/-- ITS FALSE NEIGHBOUR: 'it returns false'. Refute it at one input. -/
def etherAlikeWrong : ChangeSpec := { name := "etherAlike", fn := fun _ => fun
  | [d] => { results := [.lit (.bool false)], args := [d] }
  | _ => none }
def EtherAlikeWrongFalsely : Prop := etherAlikeRow.holds Try.pinned (OpenSpec.ofChange etherAlikeWrong)

/-- 'siphonlaw03.EtherGroups': WHATEVER THE INPUT: true; the input reads as it did. -/
def etherGroupsSpec : ChangeSpec := { name := "etherGroups", fn := fun _ => fun
  | [d1, d2] => { results := [.lit (.bool true)], args := [d1, d2] }
  | _ => none }
def etherGroupsRow : OpenClaim := { program := "ythpdfihmpoofaaa", sum := "9be7fdec90e08ed15a9b75e49996436824ce459fa8db4576befc80aed1755fc7", func := "siphon/siphonlaw03.EtherGroups", spec := "etherGroups", inPlace := ["internal/abi.NoEscape"], unfollowed := true, recurses := true, apart := false }
def EtherGroupsSaid : Prop := etherGroupsRow.holds Try.pinned (OpenSpec.ofChange etherGroupsSpec)

/-- ITS FALSE NEIGHBOUR: 'it returns false'. Refute it at one input. -/
def etherGroupsWrong : ChangeSpec := { name := "etherGroups", fn := fun _ => fun
  | [d1, d2] => { results := [.lit (.bool false)], args := [d1, d2] }
  | _ => none }
def EtherGroupsWrongFalsely : Prop := etherGroupsRow.holds Try.pinned (OpenSpec.ofChange etherGroupsWrong)

/- THE SECOND FORM. 'bulk': how many values and letters a reading holds, each counted each time it is reached (what is shared counts as often as it is met; a slice's spare places count too). A statement '..UptoSaid' is the law's where the arguments, and the package variables that the reading takes, are together of bulk at most 1048576: NARROWER than '..Said'. Prove '..Said' where nothing that the law and all that it calls make is longer than what came in: it says more and counts as full. Else prove '..UptoSaid'. A law counts once. -/
mutual
def uptoBulk {H : Type} : DataW H → Nat
  | .lit (.string bytes) => bytes.length + 1
  | .lit _ => 1
  | .nil => 1
  | .ptr d => uptoBulk d + 1
  | .slice elems spare => uptoBulkAll elems + uptoBulkAll spare + 1
  | .agg parts => uptoBulkAll parts + 1
  | .iface _ d => uptoBulk d + 1
  | .map entries => uptoBulkEntries entries + 1
  | .held _ => 1
def uptoBulkAll {H : Type} : List (DataW H) → Nat
  | [] => 0
  | d :: r => uptoBulk d + uptoBulkAll r
def uptoBulkEntries {H : Type} : List (Lit × DataW H) → Nat
  | [] => 0
  | x :: r => uptoBulkEntry x + uptoBulkEntries r
def uptoBulkEntry {H : Type} : Lit × DataW H → Nat
  | (.string bytes, d) => bytes.length + uptoBulk d + 1
  | (_, d) => uptoBulk d + 1
 end
def uptoSmall : (H : Type) → List (DataW H) → Bool := fun _ ds => decide (uptoBulkAll ds ≤ 1048576)
def OpenSpec.upto (s : _root_.Go.ChangeSpec) : _root_.Go.OpenSpec := { _root_.Go.OpenSpec.ofChange s with cond := some uptoSmall }

/-- 'siphonlaw03.EtherDecodes', WHERE WHAT IT READS IS OF BULK AT MOST 1048576: true; the input reads as it did. -/
def etherDecodesUptoRow : OpenClaim := { program := "ythpdfihmpoofaaa", sum := "9be7fdec90e08ed15a9b75e49996436824ce459fa8db4576befc80aed1755fc7", func := "siphon/siphonlaw03.EtherDecodes", spec := "etherDecodes", inPlace := ["internal/abi.NoEscape"], unfollowed := true, recurses := true, apart := false, narrowed := true }
def EtherDecodesUptoSaid : Prop := etherDecodesUptoRow.holds Try.pinned (OpenSpec.upto etherDecodesSpec)

/-- 'siphonlaw03.EtherEncodes', WHERE WHAT IT READS IS OF BULK AT MOST 1048576: true; the input reads as it did. -/
def etherEncodesUptoRow : OpenClaim := { program := "ythpdfihmpoofaaa", sum := "9be7fdec90e08ed15a9b75e49996436824ce459fa8db4576befc80aed1755fc7", func := "siphon/siphonlaw03.EtherEncodes", spec := "etherEncodes", inPlace := ["internal/abi.NoEscape"], unfollowed := true, recurses := true, apart := false, narrowed := true }
def EtherEncodesUptoSaid : Prop := etherEncodesUptoRow.holds Try.pinned (OpenSpec.upto etherEncodesSpec)

/-- 'siphonlaw03.EtherBack', WHERE WHAT IT READS IS OF BULK AT MOST 1048576: true; the input reads as it did. -/
def etherBackUptoRow : OpenClaim := { program := "ythpdfihmpoofaaa", sum := "9be7fdec90e08ed15a9b75e49996436824ce459fa8db4576befc80aed1755fc7", func := "siphon/siphonlaw03.EtherBack", spec := "etherBack", inPlace := ["internal/abi.NoEscape"], unfollowed := true, recurses := true, apart := false, narrowed := true }
def EtherBackUptoSaid : Prop := etherBackUptoRow.holds Try.pinned (OpenSpec.upto etherBackSpec)

/-- 'siphonlaw03.EtherForth', WHERE WHAT IT READS IS OF BULK AT MOST 1048576: true; the input reads as it did. -/
def etherForthUptoRow : OpenClaim := { program := "ythpdfihmpoofaaa", sum := "9be7fdec90e08ed15a9b75e49996436824ce459fa8db4576befc80aed1755fc7", func := "siphon/siphonlaw03.EtherForth", spec := "etherForth", inPlace := ["internal/abi.NoEscape"], unfollowed := true, recurses := true, apart := false, narrowed := true }
def EtherForthUptoSaid : Prop := etherForthUptoRow.holds Try.pinned (OpenSpec.upto etherForthSpec)

/-- 'siphonlaw03.EtherTags', WHERE WHAT IT READS IS OF BULK AT MOST 1048576: true; the input reads as it did. -/
def etherTagsUptoRow : OpenClaim := { program := "ythpdfihmpoofaaa", sum := "9be7fdec90e08ed15a9b75e49996436824ce459fa8db4576befc80aed1755fc7", func := "siphon/siphonlaw03.EtherTags", spec := "etherTags", inPlace := ["internal/abi.NoEscape"], unfollowed := true, recurses := true, apart := false, narrowed := true }
def EtherTagsUptoSaid : Prop := etherTagsUptoRow.holds Try.pinned (OpenSpec.upto etherTagsSpec)

/-- 'siphonlaw03.EtherAlike', WHERE WHAT IT READS IS OF BULK AT MOST 1048576: true; the input reads as it did. -/
def etherAlikeUptoRow : OpenClaim := { program := "ythpdfihmpoofaaa", sum := "9be7fdec90e08ed15a9b75e49996436824ce459fa8db4576befc80aed1755fc7", func := "siphon/siphonlaw03.EtherAlike", spec := "etherAlike", inPlace := ["internal/abi.NoEscape"], unfollowed := true, recurses := true, apart := false, narrowed := true }
def EtherAlikeUptoSaid : Prop := etherAlikeUptoRow.holds Try.pinned (OpenSpec.upto etherAlikeSpec)

/-- 'siphonlaw03.EtherGroups', WHERE WHAT IT READS IS OF BULK AT MOST 1048576: true; the input reads as it did. -/
def etherGroupsUptoRow : OpenClaim := { program := "ythpdfihmpoofaaa", sum := "9be7fdec90e08ed15a9b75e49996436824ce459fa8db4576befc80aed1755fc7", func := "siphon/siphonlaw03.EtherGroups", spec := "etherGroups", inPlace := ["internal/abi.NoEscape"], unfollowed := true, recurses := true, apart := false, narrowed := true }
def EtherGroupsUptoSaid : Prop := etherGroupsUptoRow.holds Try.pinned (OpenSpec.upto etherGroupsSpec)

end Rows
end Go.Proofs.Ythpdfihmpoofaaa
