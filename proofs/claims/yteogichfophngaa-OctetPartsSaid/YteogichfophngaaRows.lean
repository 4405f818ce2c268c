/-
  No cell of these rows narrows 'for every input' (looked for: loops, veiled, ifaces, maps, wideKeys, modest, calm, conditions, laid).
  DERIVED. THE GIVEN ROWS OF THIS SEAT. 7 by the template 'for every input the law returns true; each argument reads behind the call as it read before'; 0 by the template 'total and deterministic' (their statements: YteogichfophngaaTotals.lean).
  GIVEN WITH THE SEED: the statements are not yours to turn. If you find one false, say at which input.
  Laid BY PROGRAM, IN A SANDBOX (cutbox-rows.mjs): the forced cells as the released guide's own fill.sh prints them over the translation b52725822828591f… (all of the seat's roots in one cut). By AI agents, Wed Nov 11 2026. No macro, syntax, notation, axiom, sorry.
-/
import Derived.Test.YteogichfophngaaChecked
import GoSem.Claim
import GoSem.ClaimJoined
import GoSem.ClaimMapViews
import Derived.JoinedTies
import Derived.KernelRfl
namespace Go.Proofs.Yteogichfophngaa
/- THE CELL 'sum', in the pinned program and in every row, IS THE sha256 OF THE DUMP (.gsa) THAT YteogichfophngaaProg.lean LOADS. Nothing in Lean hashes anything: it is a label: what it is worth is what the hold of that sum in a sandbox is worth. -/
noncomputable def Try.pinned : Pinned := { name := "yteogichfophngaa", sum := "b52725822828591f4dc202c6c00369a61f8c5ed36f4e5b2def90a83d89ee3f5b", checked := Try.checked }
namespace Rows
def none {H : Type} : Left H := { results := [], args := [] }

/-- 'siphonlaw01.OctetGets': WHATEVER THE INPUT: true; the input reads as it did. -/
def octetGetsSpec : ChangeSpec := { name := "octetGets", fn := fun _ => fun
  | [d1, d2, d3] => { results := [.lit (.bool true)], args := [d1, d2, d3] }
  | _ => none }
def octetGetsRow : OpenClaim := { program := "yteogichfophngaa", sum := "b52725822828591f4dc202c6c00369a61f8c5ed36f4e5b2def90a83d89ee3f5b", func := "siphon/siphonlaw01.OctetGets", spec := "octetGets", unfollowed := true, recurses := true, apart := false }
def OctetGetsSaid : Prop := octetGetsRow.holds Try.pinned (OpenSpec.ofChange octetGetsSpec)

/-- ITS FALSE NEIGHBOUR: 'it returns false'. Refute it at one input. -/
def octetGetsWrong : ChangeSpec := { name := "octetGets", fn := fun _ => fun
  | [d1, d2, d3] => { results := [.lit (.bool false)], args := [d1, d2, d3] }
  | _ => none }
def OctetGetsWrongFalsely : Prop := octetGetsRow.holds Try.pinned (OpenSpec.ofChange octetGetsWrong)

/-- 'siphonlaw01.OctetPuts': WHATEVER THE INPUT: true; the input reads as it did. -/
def octetPutsSpec : ChangeSpec := { name := "octetPuts", fn := fun _ => fun
  | [d1, d2] => { results := [.lit (.bool true)], args := [d1, d2] }
  | _ => none }
def octetPutsRow : OpenClaim := { program := "yteogichfophngaa", sum := "b52725822828591f4dc202c6c00369a61f8c5ed36f4e5b2def90a83d89ee3f5b", func := "siphon/siphonlaw01.OctetPuts", spec := "octetPuts", unfollowed := true, recurses := true, apart := false }
def OctetPutsSaid : Prop := octetPutsRow.holds Try.pinned (OpenSpec.ofChange octetPutsSpec)

/-- ITS FALSE NEIGHBOUR: 'it returns false'. Refute it at one input. -/
def octetPutsWrong : ChangeSpec := { name := "octetPuts", fn := fun _ => fun
  | [d1, d2] => { results := [.lit (.bool false)], args := [d1, d2] }
  | _ => none }
def OctetPutsWrongFalsely : Prop := octetPutsRow.holds Try.pinned (OpenSpec.ofChange octetPutsWrong)

/-- 'siphonlaw01.OctetCuts': WHATEVER THE INPUT: true; the input reads as it did. -/
def octetCutsSpec : ChangeSpec := { name := "octetCuts", fn := fun _ => fun
  | [d1, d2, d3] => { results := [.lit (.bool true)], args := [d1, d2, d3] }
  | _ => none }
def octetCutsRow : OpenClaim := { program := "yteogichfophngaa", sum := "b52725822828591f4dc202c6c00369a61f8c5ed36f4e5b2def90a83d89ee3f5b", func := "siphon/siphonlaw01.OctetCuts", spec := "octetCuts", unfollowed := true, recurses := true, apart := false }
def OctetCutsSaid : Prop := octetCutsRow.holds Try.pinned (OpenSpec.ofChange octetCutsSpec)

/-- ITS FALSE NEIGHBOUR: 'it returns false'. Refute it at one input. -/
def octetCutsWrong : ChangeSpec := { name := "octetCuts", fn := fun _ => fun
  | [d1, d2, d3] => { results := [.lit (.bool false)], args := [d1, d2, d3] }
  | _ => none }
def OctetCutsWrongFalsely : Prop := octetCutsRow.holds Try.pinned (OpenSpec.ofChange octetCutsWrong)

/-- 'siphonlaw01.OctetParts': WHATEVER THE INPUT: true; the input reads as it did. -/
def octetPartsSpec : ChangeSpec := { name := "octetParts", fn := fun _ => fun
  | [d] => { results := [.lit (.bool true)], args := [d] }
  | _ => none }
def octetPartsRow : OpenClaim := { program := "yteogichfophngaa", sum := "b52725822828591f4dc202c6c00369a61f8c5ed36f4e5b2def90a83d89ee3f5b", func := "siphon/siphonlaw01.OctetParts", spec := "octetParts", unfollowed := true, recurses := true, apart := false }
def OctetPartsSaid : Prop := octetPartsRow.holds Try.pinned (OpenSpec.ofChange octetPartsSpec)

/-- ITS FALSE NEIGHBOUR: 'it returns false'. Refute it at one input. -/
def octetPartsWrong : ChangeSpec := { name := "octetParts", fn := fun _ => fun
  | [d] => { results := [.lit (.bool false)], args := [d] }
  | _ => none }
def OctetPartsWrongFalsely : Prop := octetPartsRow.holds Try.pinned (OpenSpec.ofChange octetPartsWrong)

/-- 'siphonlaw01.OctetWidths': WHATEVER THE INPUT: true; the input reads as it did. -/
def octetWidthsSpec : ChangeSpec := { name := "octetWidths", fn := fun _ => fun
  | [d] => { results := [.lit (.bool true)], args := [d] }
  | _ => none }
def octetWidthsRow : OpenClaim := { program := "yteogichfophngaa", sum := "b52725822828591f4dc202c6c00369a61f8c5ed36f4e5b2def90a83d89ee3f5b", func := "siphon/siphonlaw01.OctetWidths", spec := "octetWidths", unfollowed := true, recurses := true, apart := false }
def OctetWidthsSaid : Prop := octetWidthsRow.holds Try.pinned (OpenSpec.ofChange octetWidthsSpec)

/-- ITS FALSE NEIGHBOUR: 'it returns false'. Refute it at one input. -/
def octetWidthsWrong : ChangeSpec := { name := "octetWidths", fn := fun _ => fun
  | [d] => { results := [.lit (.bool false)], args := [d] }
  | _ => none }
def OctetWidthsWrongFalsely : Prop := octetWidthsRow.holds Try.pinned (OpenSpec.ofChange octetWidthsWrong)

/-- 'siphonlaw01.OctetWide': WHATEVER THE INPUT: true; the input reads as it did. -/
def octetWideSpec : ChangeSpec := { name := "octetWide", fn := fun _ => fun
  | [d1, d2, d3] => { results := [.lit (.bool true)], args := [d1, d2, d3] }
  | _ => none }
def octetWideRow : OpenClaim := { program := "yteogichfophngaa", sum := "b52725822828591f4dc202c6c00369a61f8c5ed36f4e5b2def90a83d89ee3f5b", func := "siphon/siphonlaw01.OctetWide", spec := "octetWide", unfollowed := true, recurses := true, apart := false }
def OctetWideSaid : Prop := octetWideRow.holds Try.pinned (OpenSpec.ofChange octetWideSpec)

/-- ITS FALSE NEIGHBOUR: 'it returns false'. Refute it at one input. -/
def octetWideWrong : ChangeSpec := { name := "octetWide", fn := fun _ => fun
  | [d1, d2, d3] => { results := [.lit (.bool false)], args := [d1, d2, d3] }
  | _ => none }
def OctetWideWrongFalsely : Prop := octetWideRow.holds Try.pinned (OpenSpec.ofChange octetWideWrong)

/-- 'siphonlaw01.OctetBack': WHATEVER THE INPUT: true; the input reads as it did. -/
def octetBackSpec : ChangeSpec := { name := "octetBack", fn := fun _ => fun
  | [d] => { results := [.lit (.bool true)], args := [d] }
  | _ => none }
def octetBackRow : OpenClaim := { program := "yteogichfophngaa", sum := "b52725822828591f4dc202c6c00369a61f8c5ed36f4e5b2def90a83d89ee3f5b", func := "siphon/siphonlaw01.OctetBack", spec := "octetBack", unfollowed := true, recurses := true, apart := false }
def OctetBackSaid : Prop := octetBackRow.holds Try.pinned (OpenSpec.ofChange octetBackSpec)

/-- ITS FALSE NEIGHBOUR: 'it returns false'. Refute it at one input. -/
def octetBackWrong : ChangeSpec := { name := "octetBack", fn := fun _ => fun
  | [d] => { results := [.lit (.bool false)], args := [d] }
  | _ => none }
def OctetBackWrongFalsely : Prop := octetBackRow.holds Try.pinned (OpenSpec.ofChange octetBackWrong)

/- THE SECOND FORM. 'bulk': how many values and letters a reading holds, each counted each time it is reached (what is shared counts as often as it is met; a slice's spare places count too). A statement '..UptoSaid' is the law's where the arguments, and the package variables that the reading takes, are together of bulk at most 1048576: NARROWER than '..Said'. Prove '..Said' where nothing that the law and all that it calls make is longer than what came in: it says more and counts as full. Else prove '..UptoSaid'. A law counts once. -/
mutual
def uptoBulk {H : Type} : DataW H → Nat
  | .lit (.string bytes) => bytes.length + 1
  | .lit _ => 1
  | .nil => 1
  | .ptr d => uptoBulk d + 1
  | .slice elems spare => uptoBulkAll elems + uptoBulkAll spare + 1
  | .agg parts => uptoBulkAll parts + 1
  | .iface _ d => uptoBulk d + 1
  | .map entries => uptoBulkEntries entries + 1
  | .held _ => 1
def uptoBulkAll {H : Type} : List (DataW H) → Nat
  | [] => 0
  | d :: r => uptoBulk d + uptoBulkAll r
def uptoBulkEntries {H : Type} : List (Lit × DataW H) → Nat
  | [] => 0
  | x :: r => uptoBulkEntry x + uptoBulkEntries r
def uptoBulkEntry {H : Type} : Lit × DataW H → Nat
  | (.string bytes, d) => bytes.length + uptoBulk d + 1
  | (_, d) => uptoBulk d + 1
 end
def uptoSmall : (H : Type) → List (DataW H) → Bool := fun _ ds => decide (uptoBulkAll ds ≤ 1048576)
def OpenSpec.upto (s : _root_.Go.ChangeSpec) : _root_.Go.OpenSpec := { _root_.Go.OpenSpec.ofChange s with cond := some uptoSmall }

/-- 'siphonlaw01.OctetGets', WHERE WHAT IT READS IS OF BULK AT MOST 1048576: true; the input reads as it did. -/
def octetGetsUptoRow : OpenClaim := { program := "yteogichfophngaa", sum := "b52725822828591f4dc202c6c00369a61f8c5ed36f4e5b2def90a83d89ee3f5b", func := "siphon/siphonlaw01.OctetGets", spec := "octetGets", unfollowed := true, recurses := true, apart := false, narrowed := true }
def OctetGetsUptoSaid : Prop := octetGetsUptoRow.holds Try.pinned (OpenSpec.upto octetGetsSpec)

/-- 'siphonlaw01.OctetPuts', WHERE WHAT IT READS IS OF BULK AT MOST 1048576: true; the input reads as it did. -/
def octetPutsUptoRow : OpenClaim := { program := "yteogichfophngaa", sum := "b52725822828591f4dc202c6c00369a61f8c5ed36f4e5b2def90a83d89ee3f5b", func := "siphon/siphonlaw01.OctetPuts", spec := "octetPuts", unfollowed := true, recurses := true, apart := false, narrowed := true }
def OctetPutsUptoSaid : Prop := octetPutsUptoRow.holds Try.pinned (OpenSpec.upto octetPutsSpec)

/-- 'siphonlaw01.OctetCuts', WHERE WHAT IT READS IS OF BULK AT MOST 1048576: true; the input reads as it did. -/
def octetCutsUptoRow : OpenClaim := { program := "yteogichfophngaa", sum := "b52725822828591f4dc202c6c00369a61f8c5ed36f4e5b2def90a83d89ee3f5b", func := "siphon/siphonlaw01.OctetCuts", spec := "octetCuts", unfollowed := true, recurses := true, apart := false, narrowed := true }
def OctetCutsUptoSaid : Prop := octetCutsUptoRow.holds Try.pinned (OpenSpec.upto octetCutsSpec)

/-- 'siphonlaw01.OctetParts', WHERE WHAT IT READS IS OF BULK AT MOST 1048576: true; the input reads as it did. -/
def octetPartsUptoRow : OpenClaim := { program := "yteogichfophngaa", sum := "b52725822828591f4dc202c6c00369a61f8c5ed36f4e5b2def90a83d89ee3f5b", func := "siphon/siphonlaw01.OctetParts", spec := "octetParts", unfollowed := true, recurses := true, apart := false, narrowed := true }
def OctetPartsUptoSaid : Prop := octetPartsUptoRow.holds Try.pinned (OpenSpec.upto octetPartsSpec)

/-- 'siphonlaw01.OctetWidths', WHERE WHAT IT READS IS OF BULK AT MOST 1048576: true; the input reads as it did. -/
def octetWidthsUptoRow : OpenClaim := { program := "yteogichfophngaa", sum := "b52725822828591f4dc202c6c00369a61f8c5ed36f4e5b2def90a83d89ee3f5b", func := "siphon/siphonlaw01.OctetWidths", spec := "octetWidths", unfollowed := true, recurses := true, apart := false, narrowed := true }
def OctetWidthsUptoSaid : Prop := octetWidthsUptoRow.holds Try.pinned (OpenSpec.upto octetWidthsSpec)

/-- 'siphonlaw01.OctetWide', WHERE WHAT IT READS IS OF BULK AT MOST 1048576: true; the input reads as it did. -/
def octetWideUptoRow : OpenClaim := { program := "yteogichfophngaa", sum := "b52725822828591f4dc202c6c00369a61f8c5ed36f4e5b2def90a83d89ee3f5b", func := "siphon/siphonlaw01.OctetWide", spec := "octetWide", unfollowed := true, recurses := true, apart := false, narrowed := true }
def OctetWideUptoSaid : Prop := octetWideUptoRow.holds Try.pinned (OpenSpec.upto octetWideSpec)

/-- 'siphonlaw01.OctetBack', WHERE WHAT IT READS IS OF BULK AT MOST 1048576: true; the input reads as it did. -/
def octetBackUptoRow : OpenClaim := { program := "yteogichfophngaa", sum := "b52725822828591f4dc202c6c00369a61f8c5ed36f4e5b2def90a83d89ee3f5b", func := "siphon/siphonlaw01.OctetBack", spec := "octetBack", unfollowed := true, recurses := true, apart := false, narrowed := true }
def OctetBackUptoSaid : Prop := octetBackUptoRow.holds Try.pinned (OpenSpec.upto octetBackSpec)

end Rows
end Go.Proofs.Yteogichfophngaa
