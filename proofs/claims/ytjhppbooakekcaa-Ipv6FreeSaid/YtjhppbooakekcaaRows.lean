/-
  No cell of these rows narrows 'for every input' (looked for: loops, veiled, ifaces, maps, wideKeys, modest, calm, conditions, laid).
  DERIVED. THE GIVEN ROWS OF THIS SEAT. 7 by the template 'for every input the law returns true; each argument reads behind the call as it read before'; 0 by the template 'total and deterministic' (their statements: YtjhppbooakekcaaTotals.lean).
  GIVEN WITH THE SEED: the statements are not yours to turn. If you find one false, say at which input.
  Laid BY PROGRAM, IN A SANDBOX (cutbox-rows.mjs): the forced cells as the released guide's own fill.sh prints them over the translation 5f670bc90d14dba3… (all of the seat's roots in one cut). By AI agents, Wed Nov 11 2026. No macro, syntax, notation, axiom, sorry.
-/
import Derived.Test.YtjhppbooakekcaaChecked
import GoSem.Claim
import GoSem.ClaimJoined
import GoSem.ClaimMapViews
import Derived.JoinedTies
import Derived.KernelRfl
namespace Go.Proofs.Ytjhppbooakekcaa
/- THE CELL 'sum', in the pinned program and in every row, IS THE sha256 OF THE DUMP (.gsa) THAT YtjhppbooakekcaaProg.lean LOADS. Nothing in Lean hashes anything: it is a label: what it is worth is what the hold of that sum in a sandbox is worth. -/
noncomputable def Try.pinned : Pinned := { name := "ytjhppbooakekcaa", sum := "5f670bc90d14dba33483c9ef80db4c80471b76dd94a59cbfd620d3c225b27c5c", checked := Try.checked }
namespace Rows
def none {H : Type} : Left H := { results := [], args := [] }

/-- 'siphonlaw05.Ipv6Decodes': WHATEVER THE INPUT: true; the input reads as it did. -/
def ipv6DecodesSpec : ChangeSpec := { name := "ipv6Decodes", fn := fun _ => fun
  | [d] => { results := [.lit (.bool true)], args := [d] }
  | _ => none }
def ipv6DecodesRow : OpenClaim := { program := "ytjhppbooakekcaa", sum := "5f670bc90d14dba33483c9ef80db4c80471b76dd94a59cbfd620d3c225b27c5c", func := "siphon/siphonlaw05.Ipv6Decodes", spec := "ipv6Decodes", unfollowed := true, recurses := true, apart := false }
def Ipv6DecodesSaid : Prop := ipv6DecodesRow.holds Try.pinned (OpenSpec.ofChange ipv6DecodesSpec)

/-- ITS FALSE NEIGHBOUR: 'it returns false'. Refute it at one input. -/
def ipv6DecodesWrong : ChangeSpec := { name := "ipv6Decodes", fn := fun _ => fun
  | [d] => { results := [.lit (.bool false)], args := [d] }
  | _ => none }
def Ipv6DecodesWrongFalsely : Prop := ipv6DecodesRow.holds Try.pinned (OpenSpec.ofChange ipv6DecodesWrong)

/-- 'siphonlaw05.Ipv6Encodes': WHATEVER THE INPUT: true; the input reads as it did. -/
def ipv6EncodesSpec : ChangeSpec := { name := "ipv6Encodes", fn := fun _ => fun
  | [d] => { results := [.lit (.bool true)], args := [d] }
  | _ => none }
def ipv6EncodesRow : OpenClaim := { program := "ytjhppbooakekcaa", sum := "5f670bc90d14dba33483c9ef80db4c80471b76dd94a59cbfd620d3c225b27c5c", func := "siphon/siphonlaw05.Ipv6Encodes", spec := "ipv6Encodes", unfollowed := true, recurses := true, apart := false }
def Ipv6EncodesSaid : Prop := ipv6EncodesRow.holds Try.pinned (OpenSpec.ofChange ipv6EncodesSpec)

/-- ITS FALSE NEIGHBOUR: 'it returns false'. Refute it at one input. -/
def ipv6EncodesWrong : ChangeSpec := { name := "ipv6Encodes", fn := fun _ => fun
  | [d] => { results := [.lit (.bool false)], args := [d] }
  | _ => none }
def Ipv6EncodesWrongFalsely : Prop := ipv6EncodesRow.holds Try.pinned (OpenSpec.ofChange ipv6EncodesWrong)

/-- 'siphonlaw05.Ipv6Options': WHATEVER THE INPUT: true; the input reads as it did. -/
def ipv6OptionsSpec : ChangeSpec := { name := "ipv6Options", fn := fun _ => fun
  | [d] => { results := [.lit (.bool true)], args := [d] }
  | _ => none }
def ipv6OptionsRow : OpenClaim := { program := "ytjhppbooakekcaa", sum := "5f670bc90d14dba33483c9ef80db4c80471b76dd94a59cbfd620d3c225b27c5c", func := "siphon/siphonlaw05.Ipv6Options", spec := "ipv6Options", unfollowed := true, recurses := true, apart := false }
def Ipv6OptionsSaid : Prop := ipv6OptionsRow.holds Try.pinned (OpenSpec.ofChange ipv6OptionsSpec)

/-- ITS FALSE NEIGHBOUR: 'it returns false'. Refute it at one input. -/
def ipv6OptionsWrong : ChangeSpec := { name := "ipv6Options", fn := fun _ => fun
  | [d] => { results := [.lit (.bool false)], args := [d] }
  | _ => none }
def Ipv6OptionsWrongFalsely : Prop := ipv6OptionsRow.holds Try.pinned (OpenSpec.ofChange ipv6OptionsWrong)

/-- 'siphonlaw05.Ipv6Back': WHATEVER THE INPUT: true; the input reads as it did. -/
def ipv6BackSpec : ChangeSpec := { name := "ipv6Back", fn := fun _ => fun
  | [d1, d2] => { results := [.lit (.bool true)], args := [d1, d2] }
  | _ => none }
def ipv6BackRow : OpenClaim := { program := "ytjhppbooakekcaa", sum := "5f670bc90d14dba33483c9ef80db4c80471b76dd94a59cbfd620d3c225b27c5c", func := "siphon/siphonlaw05.Ipv6Back", spec := "ipv6Back", unfollowed := true, recurses := true, apart := false }
def Ipv6BackSaid : Prop := ipv6BackRow.holds Try.pinned (OpenSpec.ofChange ipv6BackSpec)

/-- ITS FALSE NEIGHBOUR: 'it returns false'. Refute it at one input. -/
def ipv6BackWrong : ChangeSpec := { name := "ipv6Back", fn := fun _ => fun
  | [d1, d2] => { results := [.lit (.bool false)], args := [d1, d2] }
  | _ => none }
def Ipv6BackWrongFalsely : Prop := ipv6BackRow.holds Try.pinned (OpenSpec.ofChange ipv6BackWrong)

/-- 'siphonlaw05.Ipv6Short': WHATEVER THE INPUT: true; the input reads as it did. -/
def ipv6ShortSpec : ChangeSpec := { name := "ipv6Short", fn := fun _ => fun
  | [d1, d2] => { results := [.lit (.bool true)], args := [d1, d2] }
  | _ => none }
def ipv6ShortRow : OpenClaim := { program := "ytjhppbooakekcaa", sum := "5f670bc90d14dba33483c9ef80db4c80471b76dd94a59cbfd620d3c225b27c5c", func := "siphon/siphonlaw05.Ipv6Short", spec := "ipv6Short", unfollowed := true, recurses := true, apart := false }
def Ipv6ShortSaid : Prop := ipv6ShortRow.holds Try.pinned (OpenSpec.ofChange ipv6ShortSpec)

/-- ITS FALSE NEIGHBOUR: 'it returns false'. Refute it at one input. -/
def ipv6ShortWrong : ChangeSpec := { name := "ipv6Short", fn := fun _ => fun
  | [d1, d2] => { results := [.lit (.bool false)], args := [d1, d2] }
  | _ => none }
def Ipv6ShortWrongFalsely : Prop := ipv6ShortRow.holds Try.pinned (OpenSpec.ofChange ipv6ShortWrong)

/-- 'siphonlaw05.Ipv6Joined': WHATEVER THE INPUT: true; the input reads as it did. -/
def ipv6JoinedSpec : ChangeSpec := { name := "ipv6Joined", fn := fun _ => fun
  | [d1, d2] => { results := [.lit (.bool true)], args := [d1, d2] }
  | _ => none }
def ipv6JoinedRow : OpenClaim := { program := "ytjhppbooakekcaa", sum := "5f670bc90d14dba33483c9ef80db4c80471b76dd94a59cbfd620d3c225b27c5c", func := "siphon/siphonlaw05.Ipv6Joined", spec := "ipv6Joined", unfollowed := true, recurses := true, apart := false }
def Ipv6JoinedSaid : Prop := ipv6JoinedRow.holds Try.pinned (OpenSpec.ofChange ipv6JoinedSpec)

/-- ITS FALSE NEIGHBOUR: 'it returns false'. Refute it at one input. -/
def ipv6JoinedWrong : ChangeSpec := { name := "ipv6Joined", fn := fun _ => fun
  | [d1, d2] => { results := [.lit (.bool false)], args := [d1, d2] }
  | _ => none }
def Ipv6JoinedWrongFalsely : Prop := ipv6JoinedRow.holds Try.pinned (OpenSpec.ofChange ipv6JoinedWrong)

/-- 'siphonlaw05.Ipv6Free': WHATEVER THE INPUT: true; the input reads as it did. -/
def ipv6FreeSpec : ChangeSpec := { name := "ipv6Free", fn := fun _ => fun
  | [d1, d2] => { results := [.lit (.bool true)], args := [d1, d2] }
  | _ => none }
def ipv6FreeRow : OpenClaim := { program := "ytjhppbooakekcaa", sum := "5f670bc90d14dba33483c9ef80db4c80471b76dd94a59cbfd620d3c225b27c5c", func := "siphon/siphonlaw05.Ipv6Free", spec := "ipv6Free", unfollowed := true, recurses := true, apart := false }
def Ipv6FreeSaid : Prop := ipv6FreeRow.holds Try.pinned (OpenSpec.ofChange ipv6FreeSpec)

/-- ITS FALSE NEIGHBOUR: 'it returns false'. Refute it at one input. -/
def ipv6FreeWrong : ChangeSpec := { name := "ipv6Free", fn := fun _ => fun
  | [d1, d2] => { results := [.lit (.bool false)], args := [d1, d2] }
  | _ => none }
def Ipv6FreeWrongFalsely : Prop := ipv6FreeRow.holds Try.pinned (OpenSpec.ofChange ipv6FreeWrong)

/- THE SECOND FORM. 'bulk': how many values and letters a reading holds, each counted each time it is reached (what is shared counts as often as it is met; a slice's spare places count too). A statement '..UptoSaid' is the law's where the arguments, and the package variables that the reading takes, are together of bulk at most 1048576: NARROWER than '..Said'. Prove '..Said' where nothing that the law and all that it calls make is longer than what came in: it says more and counts as full. Else prove '..UptoSaid'. A law counts once. -/
mutual
def uptoBulk {H : Type} : DataW H → Nat
  | .lit (.string bytes) => bytes.length + 1
  | .lit _ => 1
  | .nil => 1
  | .ptr d => uptoBulk d + 1
  | .slice elems spare => uptoBulkAll elems + uptoBulkAll spare + 1
  | .agg parts => uptoBulkAll parts + 1
  | .iface _ d => uptoBulk d + 1
  | .map entries => uptoBulkEntries entries + 1
  | .held _ => 1
def uptoBulkAll {H : Type} : List (DataW H) → Nat
  | [] => 0
  | d :: r => uptoBulk d + uptoBulkAll r
def uptoBulkEntries {H : Type} : List (Lit × DataW H) → Nat
  | [] => 0
  | x :: r => uptoBulkEntry x + uptoBulkEntries r
def uptoBulkEntry {H : Type} : Lit × DataW H → Nat
  | (.string bytes, d) => bytes.length + uptoBulk d + 1
  | (_, d) => uptoBulk d + 1
 end
def uptoSmall : (H : Type) → List (DataW H) → Bool := fun _ ds => decide (uptoBulkAll ds ≤ 1048576)
def OpenSpec.upto (s : _root_.Go.ChangeSpec) : _root_.Go.OpenSpec := { _root_.Go.OpenSpec.ofChange s with cond := some uptoSmall }

/-- 'siphonlaw05.Ipv6Decodes', WHERE WHAT IT READS IS OF BULK AT MOST 1048576: true; the input reads as it did. -/
def ipv6DecodesUptoRow : OpenClaim := { program := "ytjhppbooakekcaa", sum := "5f670bc90d14dba33483c9ef80db4c80471b76dd94a59cbfd620d3c225b27c5c", func := "siphon/siphonlaw05.Ipv6Decodes", spec := "ipv6Decodes", unfollowed := true, recurses := true, apart := false, narrowed := true }
def Ipv6DecodesUptoSaid : Prop := ipv6DecodesUptoRow.holds Try.pinned (OpenSpec.upto ipv6DecodesSpec)

/-- 'siphonlaw05.Ipv6Encodes', WHERE WHAT IT READS IS OF BULK AT MOST 1048576: true; the input reads as it did. -/
def ipv6EncodesUptoRow : OpenClaim := { program := "ytjhppbooakekcaa", sum := "5f670bc90d14dba33483c9ef80db4c80471b76dd94a59cbfd620d3c225b27c5c", func := "siphon/siphonlaw05.Ipv6Encodes", spec := "ipv6Encodes", unfollowed := true, recurses := true, apart := false, narrowed := true }
def Ipv6EncodesUptoSaid : Prop := ipv6EncodesUptoRow.holds Try.pinned (OpenSpec.upto ipv6EncodesSpec)

/-- 'siphonlaw05.Ipv6Options', WHERE WHAT IT READS IS OF BULK AT MOST 1048576: true; the input reads as it did. -/
def ipv6OptionsUptoRow : OpenClaim := { program := "ytjhppbooakekcaa", sum := "5f670bc90d14dba33483c9ef80db4c80471b76dd94a59cbfd620d3c225b27c5c", func := "siphon/siphonlaw05.Ipv6Options", spec := "ipv6Options", unfollowed := true, recurses := true, apart := false, narrowed := true }
def Ipv6OptionsUptoSaid : Prop := ipv6OptionsUptoRow.holds Try.pinned (OpenSpec.upto ipv6OptionsSpec)

/-- 'siphonlaw05.Ipv6Back', WHERE WHAT IT READS IS OF BULK AT MOST 1048576: true; the input reads as it did. -/
def ipv6BackUptoRow : OpenClaim := { program := "ytjhppbooakekcaa", sum := "5f670bc90d14dba33483c9ef80db4c80471b76dd94a59cbfd620d3c225b27c5c", func := "siphon/siphonlaw05.Ipv6Back", spec := "ipv6Back", unfollowed := true, recurses := true, apart := false, narrowed := true }
def Ipv6BackUptoSaid : Prop := ipv6BackUptoRow.holds Try.pinned (OpenSpec.upto ipv6BackSpec)

/-- 'siphonlaw05.Ipv6Short', WHERE WHAT IT READS IS OF BULK AT MOST 1048576: true; the input reads as it did. -/
def ipv6ShortUptoRow : OpenClaim := { program := "ytjhppbooakekcaa", sum := "5f670bc90d14dba33483c9ef80db4c80471b76dd94a59cbfd620d3c225b27c5c", func := "siphon/siphonlaw05.Ipv6Short", spec := "ipv6Short", unfollowed := true, recurses := true, apart := false, narrowed := true }
def Ipv6ShortUptoSaid : Prop := ipv6ShortUptoRow.holds Try.pinned (OpenSpec.upto ipv6ShortSpec)

/-- 'siphonlaw05.Ipv6Joined', WHERE WHAT IT READS IS OF BULK AT MOST 1048576: true; the input reads as it did. -/
def ipv6JoinedUptoRow : OpenClaim := { program := "ytjhppbooakekcaa", sum := "5f670bc90d14dba33483c9ef80db4c80471b76dd94a59cbfd620d3c225b27c5c", func := "siphon/siphonlaw05.Ipv6Joined", spec := "ipv6Joined", unfollowed := true, recurses := true, apart := false, narrowed := true }
def Ipv6JoinedUptoSaid : Prop := ipv6JoinedUptoRow.holds Try.pinned (OpenSpec.upto ipv6JoinedSpec)

/-- 'siphonlaw05.Ipv6Free', WHERE WHAT IT READS IS OF BULK AT MOST 1048576: true; the input reads as it did. -/
def ipv6FreeUptoRow : OpenClaim := { program := "ytjhppbooakekcaa", sum := "5f670bc90d14dba33483c9ef80db4c80471b76dd94a59cbfd620d3c225b27c5c", func := "siphon/siphonlaw05.Ipv6Free", spec := "ipv6Free", unfollowed := true, recurses := true, apart := false, narrowed := true }
def Ipv6FreeUptoSaid : Prop := ipv6FreeUptoRow.holds Try.pinned (OpenSpec.upto ipv6FreeSpec)

end Rows
end Go.Proofs.Ytjhppbooakekcaa
