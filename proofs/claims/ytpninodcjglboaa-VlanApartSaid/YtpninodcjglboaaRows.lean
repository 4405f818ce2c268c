/-
  No cell of these rows narrows 'for every input' (looked for: loops, veiled, ifaces, maps, wideKeys, modest, calm, conditions, laid).
  DERIVED. THE GIVEN ROWS OF THIS SEAT. 5 by the template 'for every input the law returns true; each argument reads behind the call as it read before'; 0 by the template 'total and deterministic' (their statements: YtpninodcjglboaaTotals.lean).
  GIVEN WITH THE SEED: the statements are not yours to turn. If you find one false, say at which input.
  Laid BY PROGRAM, IN A SANDBOX (cutbox-rows.mjs): the forced cells as the released guide's own fill.sh prints them over the translation af29054d8a65183a… (all of the seat's roots in one cut). By AI agents, Wed Nov 11 2026. No macro, syntax, notation, axiom, sorry.
-/
import Derived.Test.YtpninodcjglboaaChecked
import GoSem.Claim
import GoSem.ClaimJoined
import GoSem.ClaimMapViews
import Derived.JoinedTies
import Derived.KernelRfl
namespace Go.Proofs.Ytpninodcjglboaa
/- THE CELL 'sum', in the pinned program and in every row, IS THE sha256 OF THE DUMP (.gsa) THAT YtpninodcjglboaaProg.lean LOADS. Nothing in Lean hashes anything: it is a label: what it is worth is what the hold of that sum in a sandbox is worth. -/
noncomputable def Try.pinned : Pinned := { name := "ytpninodcjglboaa", sum := "af29054d8a65183a3edff95e08d23832bf7c025258dd4eb6144e6d5c18991267", checked := Try.checked }
namespace Rows
def none {H : Type} : Left H := { results := [], args := [] }

/-- 'siphonlaw12.VlanIns': WHATEVER THE INPUT: true; the input reads as it did. -/
def vlanInsSpec : ChangeSpec := { name := "vlanIns", fn := fun _ => fun
  | [d1, d2, d3] => { results := [.lit (.bool true)], args := [d1, d2, d3] }
  | _ => none }
def vlanInsRow : OpenClaim := { program := "ytpninodcjglboaa", sum := "af29054d8a65183a3edff95e08d23832bf7c025258dd4eb6144e6d5c18991267", func := "siphon/siphonlaw12.VlanIns", spec := "vlanIns", inPlace := ["internal/abi.NoEscape"], unfollowed := true, recurses := true, apart := false }
def VlanInsSaid : Prop := vlanInsRow.holds Try.pinned (OpenSpec.ofChange vlanInsSpec)

/-- ITS FALSE NEIGHBOUR: 'it returns false'. Refute it at one input. -/
def vlanInsWrong : ChangeSpec := { name := "vlanIns", fn := fun _ => fun
  | [d1, d2, d3] => { results := [.lit (.bool false)], args := [d1, d2, d3] }
  | _ => none }
def VlanInsWrongFalsely : Prop := vlanInsRow.holds Try.pinned (OpenSpec.ofChange vlanInsWrong)

/-- 'siphonlaw12.VlanOuts': WHATEVER THE INPUT: true; the input reads as it did. -/
def vlanOutsSpec : ChangeSpec := { name := "vlanOuts", fn := fun _ => fun
  | [d1, d2, d3] => { results := [.lit (.bool true)], args := [d1, d2, d3] }
  | _ => none }
def vlanOutsRow : OpenClaim := { program := "ytpninodcjglboaa", sum := "af29054d8a65183a3edff95e08d23832bf7c025258dd4eb6144e6d5c18991267", func := "siphon/siphonlaw12.VlanOuts", spec := "vlanOuts", inPlace := ["internal/abi.NoEscape"], unfollowed := true, recurses := true, apart := false }
def VlanOutsSaid : Prop := vlanOutsRow.holds Try.pinned (OpenSpec.ofChange vlanOutsSpec)

/-- ITS FALSE NEIGHBOUR: 'it returns false'. Refute it at one input. -/
def vlanOutsWrong : ChangeSpec := { name := "vlanOuts", fn := fun _ => fun
  | [d1, d2, d3] => { results := [.lit (.bool false)], args := [d1, d2, d3] }
  | _ => none }
def VlanOutsWrongFalsely : Prop := vlanOutsRow.holds Try.pinned (OpenSpec.ofChange vlanOutsWrong)

/-- 'siphonlaw12.VlanBack': WHATEVER THE INPUT: true; the input reads as it did. -/
def vlanBackSpec : ChangeSpec := { name := "vlanBack", fn := fun _ => fun
  | [d1, d2, d3] => { results := [.lit (.bool true)], args := [d1, d2, d3] }
  | _ => none }
def vlanBackRow : OpenClaim := { program := "ytpninodcjglboaa", sum := "af29054d8a65183a3edff95e08d23832bf7c025258dd4eb6144e6d5c18991267", func := "siphon/siphonlaw12.VlanBack", spec := "vlanBack", inPlace := ["internal/abi.NoEscape"], unfollowed := true, recurses := true, apart := false }
def VlanBackSaid : Prop := vlanBackRow.holds Try.pinned (OpenSpec.ofChange vlanBackSpec)

/-- ITS FALSE NEIGHBOUR: 'it returns false'. Refute it at one input. -/
def vlanBackWrong : ChangeSpec := { name := "vlanBack", fn := fun _ => fun
  | [d1, d2, d3] => { results := [.lit (.bool false)], args := [d1, d2, d3] }
  | _ => none }
def VlanBackWrongFalsely : Prop := vlanBackRow.holds Try.pinned (OpenSpec.ofChange vlanBackWrong)

/-- 'siphonlaw12.VlanChecks': WHATEVER THE INPUT: true; the input reads as it did. -/
def vlanChecksSpec : ChangeSpec := { name := "vlanChecks", fn := fun _ => fun
  | [d1, d2] => { results := [.lit (.bool true)], args := [d1, d2] }
  | _ => none }
def vlanChecksRow : OpenClaim := { program := "ytpninodcjglboaa", sum := "af29054d8a65183a3edff95e08d23832bf7c025258dd4eb6144e6d5c18991267", func := "siphon/siphonlaw12.VlanChecks", spec := "vlanChecks", inPlace := ["internal/abi.NoEscape"], unfollowed := true, recurses := true, apart := false }
def VlanChecksSaid : Prop := vlanChecksRow.holds Try.pinned (OpenSpec.ofChange vlanChecksSpec)

/-- ITS FALSE NEIGHBOUR: 'it returns false'. Refute it at one input. -/
def vlanChecksWrong : ChangeSpec := { name := "vlanChecks", fn := fun _ => fun
  | [d1, d2] => { results := [.lit (.bool false)], args := [d1, d2] }
  | _ => none }
def VlanChecksWrongFalsely : Prop := vlanChecksRow.holds Try.pinned (OpenSpec.ofChange vlanChecksWrong)

/-- 'siphonlaw12.VlanApart': WHATEVER THE INPUT: true; the input reads as it did. -/
def vlanApartSpec : ChangeSpec := { name := "vlanApart", fn := fun _ => fun
  | [d1, d2, d3] => { results := [.lit (.bool true)], args := [d1, d2, d3] }
  | _ => none }
def vlanApartRow : OpenClaim := { program := "ytpninodcjglboaa", sum := "af29054d8a65183a3edff95e08d23832bf7c025258dd4eb6144e6d5c18991267", func := "siphon/siphonlaw12.VlanApart", spec := "vlanApart", inPlace := ["internal/abi.NoEscape"], unfollowed := true, recurses := true, apart := false }
def VlanApartSaid : Prop := vlanApartRow.holds Try.pinned (OpenSpec.ofChange vlanApartSpec)

/-- ITS FALSE NEIGHBOUR: 'it returns false'. Refute it at one input. -/
def vlanApartWrong : ChangeSpec := { name := "vlanApart", fn := fun _ => fun
  | [d1, d2, d3] => { results := [.lit (.bool false)], args := [d1, d2, d3] }
  | _ => none }
def VlanApartWrongFalsely : Prop := vlanApartRow.holds Try.pinned (OpenSpec.ofChange vlanApartWrong)

/- THE SECOND FORM. 'bulk': how many values and letters a reading holds, each counted each time it is reached (what is shared counts as often as it is met; a slice's spare places count too). A statement '..UptoSaid' is the law's where the arguments, and the package variables that the reading takes, are together of bulk at most 1048576: NARROWER than '..Said'. Prove '..Said' where nothing that the law and all that it calls make is longer than what came in: it says more and counts as full. Else prove '..UptoSaid'. A law counts once. -/
mutual
def uptoBulk {H : Type} : DataW H → Nat
  | .lit (.string bytes) => bytes.length + 1
  | .lit _ => 1
  | .nil => 1
  | .ptr d => uptoBulk d + 1
  | .slice elems spare => uptoBulkAll elems + uptoBulkAll spare + 1
  | .agg parts => uptoBulkAll parts + 1
  | .iface _ d => uptoBulk d + 1
  | .map entries => uptoBulkEntries entries + 1
  | .held _ => 1
def uptoBulkAll {H : Type} : List (DataW H) → Nat
  | [] => 0
  | d :: r => uptoBulk d + uptoBulkAll r
def uptoBulkEntries {H : Type} : List (Lit × DataW H) → Nat
  | [] => 0
  | x :: r => uptoBulkEntry x + uptoBulkEntries r
def uptoBulkEntry {H : Type} : Lit × DataW H → Nat
  | (.string bytes, d) => bytes.length + uptoBulk d + 1
  | (_, d) => uptoBulk d + 1
 end
def uptoSmall : (H : Type) → List (DataW H) → Bool := fun _ ds => decide (uptoBulkAll ds ≤ 1048576)
def OpenSpec.upto (s : _root_.Go.ChangeSpec) : _root_.Go.OpenSpec := { _root_.Go.OpenSpec.ofChange s with cond := some uptoSmall }

/-- 'siphonlaw12.VlanIns', WHERE WHAT IT READS IS OF BULK AT MOST 1048576: true; the input reads as it did. -/
def vlanInsUptoRow : OpenClaim := { program := "ytpninodcjglboaa", sum := "af29054d8a65183a3edff95e08d23832bf7c025258dd4eb6144e6d5c18991267", func := "siphon/siphonlaw12.VlanIns", spec := "vlanIns", inPlace := ["internal/abi.NoEscape"], unfollowed := true, recurses := true, apart := false, narrowed := true }
def VlanInsUptoSaid : Prop := vlanInsUptoRow.holds Try.pinned (OpenSpec.upto vlanInsSpec)

/-- 'siphonlaw12.VlanOuts', WHERE WHAT IT READS IS OF BULK AT MOST 1048576: true; the input reads as it did. -/
def vlanOutsUptoRow : OpenClaim := { program := "ytpninodcjglboaa", sum := "af29054d8a65183a3edff95e08d23832bf7c025258dd4eb6144e6d5c18991267", func := "siphon/siphonlaw12.VlanOuts", spec := "vlanOuts", inPlace := ["internal/abi.NoEscape"], unfollowed := true, recurses := true, apart := false, narrowed := true }
def VlanOutsUptoSaid : Prop := vlanOutsUptoRow.holds Try.pinned (OpenSpec.upto vlanOutsSpec)

/-- 'siphonlaw12.VlanBack', WHERE WHAT IT READS IS OF BULK AT MOST 1048576: true; the input reads as it did. -/
def vlanBackUptoRow : OpenClaim := { program := "ytpninodcjglboaa", sum := "af29054d8a65183a3edff95e08d23832bf7c025258dd4eb6144e6d5c18991267", func := "siphon/siphonlaw12.VlanBack", spec := "vlanBack", inPlace := ["internal/abi.NoEscape"], unfollowed := true, recurses := true, apart := false, narrowed := true }
def VlanBackUptoSaid : Prop := vlanBackUptoRow.holds Try.pinned (OpenSpec.upto vlanBackSpec)

/-- 'siphonlaw12.VlanChecks', WHERE WHAT IT READS IS OF BULK AT MOST 1048576: true; the input reads as it did. -/
def vlanChecksUptoRow : OpenClaim := { program := "ytpninodcjglboaa", sum := "af29054d8a65183a3edff95e08d23832bf7c025258dd4eb6144e6d5c18991267", func := "siphon/siphonlaw12.VlanChecks", spec := "vlanChecks", inPlace := ["internal/abi.NoEscape"], unfollowed := true, recurses := true, apart := false, narrowed := true }
def VlanChecksUptoSaid : Prop := vlanChecksUptoRow.holds Try.pinned (OpenSpec.upto vlanChecksSpec)

/-- 'siphonlaw12.VlanApart', WHERE WHAT IT READS IS OF BULK AT MOST 1048576: true; the input reads as it did. -/
def vlanApartUptoRow : OpenClaim := { program := "ytpninodcjglboaa", sum := "af29054d8a65183a3edff95e08d23832bf7c025258dd4eb6144e6d5c18991267", func := "siphon/siphonlaw12.VlanApart", spec := "vlanApart", inPlace := ["internal/abi.NoEscape"], unfollowed := true, recurses := true, apart := false, narrowed := true }
def VlanApartUptoSaid : Prop := vlanApartUptoRow.holds Try.pinned (OpenSpec.upto vlanApartSpec)

end Rows
end Go.Proofs.Ytpninodcjglboaa
