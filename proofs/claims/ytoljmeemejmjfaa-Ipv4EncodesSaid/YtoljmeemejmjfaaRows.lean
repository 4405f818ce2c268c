/-
  No cell of these rows narrows 'for every input' (looked for: loops, veiled, ifaces, maps, wideKeys, modest, calm, conditions, laid).
  DERIVED. THE GIVEN ROWS OF THIS SEAT. 7 by the template 'for every input the law returns true; each argument reads behind the call as it read before'; 0 by the template 'total and deterministic' (their statements: YtoljmeemejmjfaaTotals.lean).
  GIVEN WITH THE SEED: the statements are not yours to turn. If you find one false, say at which input.
  Laid BY PROGRAM, IN A SANDBOX (cutbox-rows.mjs): the forced cells as the released guide's own fill.sh prints them over the translation 41ac7d72a2dffef2… (all of the seat's roots in one cut). By AI agents, Wed Nov 11 2026. No macro, syntax, notation, axiom, sorry.
-/
import Derived.Test.YtoljmeemejmjfaaChecked
import GoSem.Claim
import GoSem.ClaimJoined
import GoSem.ClaimMapViews
import Derived.JoinedTies
import Derived.KernelRfl
namespace Go.Proofs.Ytoljmeemejmjfaa
/- THE CELL 'sum', in the pinned program and in every row, IS THE sha256 OF THE DUMP (.gsa) THAT YtoljmeemejmjfaaProg.lean LOADS. Nothing in Lean hashes anything: it is a label: what it is worth is what the hold of that sum in a sandbox is worth. -/
noncomputable def Try.pinned : Pinned := { name := "ytoljmeemejmjfaa", sum := "41ac7d72a2dffef2460085e4dd142aa01a31256991f10fbc12458f9bbed3eb1d", checked := Try.checked }
namespace Rows
def none {H : Type} : Left H := { results := [], args := [] }

/-- 'siphonlaw04.Ipv4Decodes': WHATEVER THE INPUT: true; the input reads as it did. -/
def ipv4DecodesSpec : ChangeSpec := { name := "ipv4Decodes", fn := fun _ => fun
  | [d] => { results := [.lit (.bool true)], args := [d] }
  | _ => none }
def ipv4DecodesRow : OpenClaim := { program := "ytoljmeemejmjfaa", sum := "41ac7d72a2dffef2460085e4dd142aa01a31256991f10fbc12458f9bbed3eb1d", func := "siphon/siphonlaw04.Ipv4Decodes", spec := "ipv4Decodes", unfollowed := true, recurses := true, apart := false }
def Ipv4DecodesSaid : Prop := ipv4DecodesRow.holds Try.pinned (OpenSpec.ofChange ipv4DecodesSpec)

/-- ITS FALSE NEIGHBOUR: 'it returns false'. Refute it at one input. -/
def ipv4DecodesWrong : ChangeSpec := { name := "ipv4Decodes", fn := fun _ => fun
  | [d] => { results := [.lit (.bool false)], args := [d] }
  | _ => none }
def Ipv4DecodesWrongFalsely : Prop := ipv4DecodesRow.holds Try.pinned (OpenSpec.ofChange ipv4DecodesWrong)

/-- 'siphonlaw04.Ipv4Encodes': WHATEVER THE INPUT: true; the input reads as it did. -/
def ipv4EncodesSpec : ChangeSpec := { name := "ipv4Encodes", fn := fun _ => fun
  | [d] => { results := [.lit (.bool true)], args := [d] }
  | _ => none }
def ipv4EncodesRow : OpenClaim := { program := "ytoljmeemejmjfaa", sum := "41ac7d72a2dffef2460085e4dd142aa01a31256991f10fbc12458f9bbed3eb1d", func := "siphon/siphonlaw04.Ipv4Encodes", spec := "ipv4Encodes", unfollowed := true, recurses := true, apart := false }
def Ipv4EncodesSaid : Prop := ipv4EncodesRow.holds Try.pinned (OpenSpec.ofChange ipv4EncodesSpec)

/-- ITS FALSE NEIGHBOUR: 'it returns false'. Refute it at one input. -/
def ipv4EncodesWrong : ChangeSpec := { name := "ipv4Encodes", fn := fun _ => fun
  | [d] => { results := [.lit (.bool false)], args := [d] }
  | _ => none }
def Ipv4EncodesWrongFalsely : Prop := ipv4EncodesRow.holds Try.pinned (OpenSpec.ofChange ipv4EncodesWrong)

/-- 'siphonlaw04.Ipv4Alerts': WHATEVER THE INPUT: true; the input reads as it did. -/
def ipv4AlertsSpec : ChangeSpec := { name := "ipv4Alerts", fn := fun _ => fun
  | [d] => { results := [.lit (.bool true)], args := [d] }
  | _ => none }
def ipv4AlertsRow : OpenClaim := { program := "ytoljmeemejmjfaa", sum := "41ac7d72a2dffef2460085e4dd142aa01a31256991f10fbc12458f9bbed3eb1d", func := "siphon/siphonlaw04.Ipv4Alerts", spec := "ipv4Alerts", unfollowed := true, recurses := true, apart := false }
def Ipv4AlertsSaid : Prop := ipv4AlertsRow.holds Try.pinned (OpenSpec.ofChange ipv4AlertsSpec)

/-- ITS FALSE NEIGHBOUR: 'it returns false'. Refute it at one input. -/
def ipv4AlertsWrong : ChangeSpec := { name := "ipv4Alerts", fn := fun _ => fun
  | [d] => { results := [.lit (.bool false)], args := [d] }
  | _ => none }
def Ipv4AlertsWrongFalsely : Prop := ipv4AlertsRow.holds Try.pinned (OpenSpec.ofChange ipv4AlertsWrong)

/-- 'siphonlaw04.Ipv4Back': WHATEVER THE INPUT: true; the input reads as it did. -/
def ipv4BackSpec : ChangeSpec := { name := "ipv4Back", fn := fun _ => fun
  | [d1, d2] => { results := [.lit (.bool true)], args := [d1, d2] }
  | _ => none }
def ipv4BackRow : OpenClaim := { program := "ytoljmeemejmjfaa", sum := "41ac7d72a2dffef2460085e4dd142aa01a31256991f10fbc12458f9bbed3eb1d", func := "siphon/siphonlaw04.Ipv4Back", spec := "ipv4Back", unfollowed := true, recurses := true, apart := false }
def Ipv4BackSaid : Prop := ipv4BackRow.holds Try.pinned (OpenSpec.ofChange ipv4BackSpec)

/-- ITS FALSE NEIGHBOUR: 'it returns false'. Refute it at one input. -/
def ipv4BackWrong : ChangeSpec := { name := "ipv4Back", fn := fun _ => fun
  | [d1, d2] => { results := [.lit (.bool false)], args := [d1, d2] }
  | _ => none }
def Ipv4BackWrongFalsely : Prop := ipv4BackRow.holds Try.pinned (OpenSpec.ofChange ipv4BackWrong)

/-- 'siphonlaw04.Ipv4Turned': WHATEVER THE INPUT: true; the input reads as it did. -/
def ipv4TurnedSpec : ChangeSpec := { name := "ipv4Turned", fn := fun _ => fun
  | [d1, d2] => { results := [.lit (.bool true)], args := [d1, d2] }
  | _ => none }
def ipv4TurnedRow : OpenClaim := { program := "ytoljmeemejmjfaa", sum := "41ac7d72a2dffef2460085e4dd142aa01a31256991f10fbc12458f9bbed3eb1d", func := "siphon/siphonlaw04.Ipv4Turned", spec := "ipv4Turned", unfollowed := true, recurses := true, apart := false }
def Ipv4TurnedSaid : Prop := ipv4TurnedRow.holds Try.pinned (OpenSpec.ofChange ipv4TurnedSpec)

/-- ITS FALSE NEIGHBOUR: 'it returns false'. Refute it at one input. -/
def ipv4TurnedWrong : ChangeSpec := { name := "ipv4Turned", fn := fun _ => fun
  | [d1, d2] => { results := [.lit (.bool false)], args := [d1, d2] }
  | _ => none }
def Ipv4TurnedWrongFalsely : Prop := ipv4TurnedRow.holds Try.pinned (OpenSpec.ofChange ipv4TurnedWrong)

/-- 'siphonlaw04.Ipv4Short': WHATEVER THE INPUT: true; the input reads as it did. -/
def ipv4ShortSpec : ChangeSpec := { name := "ipv4Short", fn := fun _ => fun
  | [d1, d2] => { results := [.lit (.bool true)], args := [d1, d2] }
  | _ => none }
def ipv4ShortRow : OpenClaim := { program := "ytoljmeemejmjfaa", sum := "41ac7d72a2dffef2460085e4dd142aa01a31256991f10fbc12458f9bbed3eb1d", func := "siphon/siphonlaw04.Ipv4Short", spec := "ipv4Short", unfollowed := true, recurses := true, apart := false }
def Ipv4ShortSaid : Prop := ipv4ShortRow.holds Try.pinned (OpenSpec.ofChange ipv4ShortSpec)

/-- ITS FALSE NEIGHBOUR: 'it returns false'. Refute it at one input. -/
def ipv4ShortWrong : ChangeSpec := { name := "ipv4Short", fn := fun _ => fun
  | [d1, d2] => { results := [.lit (.bool false)], args := [d1, d2] }
  | _ => none }
def Ipv4ShortWrongFalsely : Prop := ipv4ShortRow.holds Try.pinned (OpenSpec.ofChange ipv4ShortWrong)

/-- 'siphonlaw04.Ipv4Free': WHATEVER THE INPUT: true; the input reads as it did. -/
def ipv4FreeSpec : ChangeSpec := { name := "ipv4Free", fn := fun _ => fun
  | [d1, d2] => { results := [.lit (.bool true)], args := [d1, d2] }
  | _ => none }
def ipv4FreeRow : OpenClaim := { program := "ytoljmeemejmjfaa", sum := "41ac7d72a2dffef2460085e4dd142aa01a31256991f10fbc12458f9bbed3eb1d", func := "siphon/siphonlaw04.Ipv4Free", spec := "ipv4Free", unfollowed := true, recurses := true, apart := false }
def Ipv4FreeSaid : Prop := ipv4FreeRow.holds Try.pinned (OpenSpec.ofChange ipv4FreeSpec)

/-- ITS FALSE NEIGHBOUR: 'it returns false'. Refute it at one input. -/
def ipv4FreeWrong : ChangeSpec := { name := "ipv4Free", fn := fun _ => fun
  | [d1, d2] => { results := [.lit (.bool false)], args := [d1, d2] }
  | _ => none }
def Ipv4FreeWrongFalsely : Prop := ipv4FreeRow.holds Try.pinned (OpenSpec.ofChange ipv4FreeWrong)

/- THE SECOND FORM. 'bulk': how many values and letters a reading holds, each counted each time it is reached (what is shared counts as often as it is met; a slice's spare places count too). A statement '..UptoSaid' is the law's where the arguments, and the package variables that the reading takes, are together of bulk at most 1048576: NARROWER than '..Said'. Prove '..Said' where nothing that the law and all that it calls make is longer than what came in: it says more and counts as full. Else prove '..UptoSaid'. A law counts once. -/
mutual
def uptoBulk {H : Type} : DataW H → Nat
  | .lit (.string bytes) => bytes.length + 1
  | .lit _ => 1
  | .nil => 1
  | .ptr d => uptoBulk d + 1
  | .slice elems spare => uptoBulkAll elems + uptoBulkAll spare + 1
  | .agg parts => uptoBulkAll parts + 1
  | .iface _ d => uptoBulk d + 1
  | .map entries => uptoBulkEntries entries + 1
  | .held _ => 1
def uptoBulkAll {H : Type} : List (DataW H) → Nat
  | [] => 0
  | d :: r => uptoBulk d + uptoBulkAll r
def uptoBulkEntries {H : Type} : List (Lit × DataW H) → Nat
  | [] => 0
  | x :: r => uptoBulkEntry x + uptoBulkEntries r
def uptoBulkEntry {H : Type} : Lit × DataW H → Nat
  | (.string bytes, d) => bytes.length + uptoBulk d + 1
  | (_, d) => uptoBulk d + 1
 end
def uptoSmall : (H : Type) → List (DataW H) → Bool := fun _ ds => decide (uptoBulkAll ds ≤ 1048576)
def OpenSpec.upto (s : _root_.Go.ChangeSpec) : _root_.Go.OpenSpec := { _root_.Go.OpenSpec.ofChange s with cond := some uptoSmall }

/-- 'siphonlaw04.Ipv4Decodes', WHERE WHAT IT READS IS OF BULK AT MOST 1048576: true; the input reads as it did. -/
def ipv4DecodesUptoRow : OpenClaim := { program := "ytoljmeemejmjfaa", sum := "41ac7d72a2dffef2460085e4dd142aa01a31256991f10fbc12458f9bbed3eb1d", func := "siphon/siphonlaw04.Ipv4Decodes", spec := "ipv4Decodes", unfollowed := true, recurses := true, apart := false, narrowed := true }
def Ipv4DecodesUptoSaid : Prop := ipv4DecodesUptoRow.holds Try.pinned (OpenSpec.upto ipv4DecodesSpec)

/-- 'siphonlaw04.Ipv4Encodes', WHERE WHAT IT READS IS OF BULK AT MOST 1048576: true; the input reads as it did. -/
def ipv4EncodesUptoRow : OpenClaim := { program := "ytoljmeemejmjfaa", sum := "41ac7d72a2dffef2460085e4dd142aa01a31256991f10fbc12458f9bbed3eb1d", func := "siphon/siphonlaw04.Ipv4Encodes", spec := "ipv4Encodes", unfollowed := true, recurses := true, apart := false, narrowed := true }
def Ipv4EncodesUptoSaid : Prop := ipv4EncodesUptoRow.holds Try.pinned (OpenSpec.upto ipv4EncodesSpec)

/-- 'siphonlaw04.Ipv4Alerts', WHERE WHAT IT READS IS OF BULK AT MOST 1048576: true; the input reads as it did. -/
def ipv4AlertsUptoRow : OpenClaim := { program := "ytoljmeemejmjfaa", sum := "41ac7d72a2dffef2460085e4dd142aa01a31256991f10fbc12458f9bbed3eb1d", func := "siphon/siphonlaw04.Ipv4Alerts", spec := "ipv4Alerts", unfollowed := true, recurses := true, apart := false, narrowed := true }
def Ipv4AlertsUptoSaid : Prop := ipv4AlertsUptoRow.holds Try.pinned (OpenSpec.upto ipv4AlertsSpec)

/-- 'siphonlaw04.Ipv4Back', WHERE WHAT IT READS IS OF BULK AT MOST 1048576: true; the input reads as it did. -/
def ipv4BackUptoRow : OpenClaim := { program := "ytoljmeemejmjfaa", sum := "41ac7d72a2dffef2460085e4dd142aa01a31256991f10fbc12458f9bbed3eb1d", func := "siphon/siphonlaw04.Ipv4Back", spec := "ipv4Back", unfollowed := true, recurses := true, apart := false, narrowed := true }
def Ipv4BackUptoSaid : Prop := ipv4BackUptoRow.holds Try.pinned (OpenSpec.upto ipv4BackSpec)

/-- 'siphonlaw04.Ipv4Turned', WHERE WHAT IT READS IS OF BULK AT MOST 1048576: true; the input reads as it did. -/
def ipv4TurnedUptoRow : OpenClaim := { program := "ytoljmeemejmjfaa", sum := "41ac7d72a2dffef2460085e4dd142aa01a31256991f10fbc12458f9bbed3eb1d", func := "siphon/siphonlaw04.Ipv4Turned", spec := "ipv4Turned", unfollowed := true, recurses := true, apart := false, narrowed := true }
def Ipv4TurnedUptoSaid : Prop := ipv4TurnedUptoRow.holds Try.pinned (OpenSpec.upto ipv4TurnedSpec)

/-- 'siphonlaw04.Ipv4Short', WHERE WHAT IT READS IS OF BULK AT MOST 1048576: true; the input reads as it did. -/
def ipv4ShortUptoRow : OpenClaim := { program := "ytoljmeemejmjfaa", sum := "41ac7d72a2dffef2460085e4dd142aa01a31256991f10fbc12458f9bbed3eb1d", func := "siphon/siphonlaw04.Ipv4Short", spec := "ipv4Short", unfollowed := true, recurses := true, apart := false, narrowed := true }
def Ipv4ShortUptoSaid : Prop := ipv4ShortUptoRow.holds Try.pinned (OpenSpec.upto ipv4ShortSpec)

/-- 'siphonlaw04.Ipv4Free', WHERE WHAT IT READS IS OF BULK AT MOST 1048576: true; the input reads as it did. -/
def ipv4FreeUptoRow : OpenClaim := { program := "ytoljmeemejmjfaa", sum := "41ac7d72a2dffef2460085e4dd142aa01a31256991f10fbc12458f9bbed3eb1d", func := "siphon/siphonlaw04.Ipv4Free", spec := "ipv4Free", unfollowed := true, recurses := true, apart := false, narrowed := true }
def Ipv4FreeUptoSaid : Prop := ipv4FreeUptoRow.holds Try.pinned (OpenSpec.upto ipv4FreeSpec)

end Rows
end Go.Proofs.Ytoljmeemejmjfaa
