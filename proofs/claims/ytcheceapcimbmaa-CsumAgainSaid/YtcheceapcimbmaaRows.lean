/-
  No cell of these rows narrows 'for every input' (looked for: loops, veiled, ifaces, maps, wideKeys, modest, calm, conditions, laid).
  DERIVED. THE GIVEN ROWS OF THIS SEAT. 6 by the template 'for every input the law returns true; each argument reads behind the call as it read before'; 0 by the template 'total and deterministic' (their statements: YtcheceapcimbmaaTotals.lean).
  GIVEN WITH THE SEED: the statements are not yours to turn. If you find one false, say at which input.
  Laid BY PROGRAM, IN A SANDBOX (cutbox-rows.mjs): the forced cells as the released guide's own fill.sh prints them over the translation 3633b8c134166671… (all of the seat's roots in one cut). By AI agents, Wed Nov 11 2026. No macro, syntax, notation, axiom, sorry.
-/
import Derived.Test.YtcheceapcimbmaaChecked
import GoSem.Claim
import GoSem.ClaimJoined
import GoSem.ClaimMapViews
import Derived.JoinedTies
import Derived.KernelRfl
namespace Go.Proofs.Ytcheceapcimbmaa
/- THE CELL 'sum', in the pinned program and in every row, IS THE sha256 OF THE DUMP (.gsa) THAT YtcheceapcimbmaaProg.lean LOADS. Nothing in Lean hashes anything: it is a label: what it is worth is what the hold of that sum in a sandbox is worth. -/
noncomputable def Try.pinned : Pinned := { name := "ytcheceapcimbmaa", sum := "3633b8c134166671baff36b708e410d7acc33d8abb088227511727ee27f54afb", checked := Try.checked }
namespace Rows
def none {H : Type} : Left H := { results := [], args := [] }

/-- 'siphonlaw02.CsumSums': WHATEVER THE INPUT: true; the input reads as it did. -/
def csumSumsSpec : ChangeSpec := { name := "csumSums", fn := fun _ => fun
  | [d] => { results := [.lit (.bool true)], args := [d] }
  | _ => none }
def csumSumsRow : OpenClaim := { program := "ytcheceapcimbmaa", sum := "3633b8c134166671baff36b708e410d7acc33d8abb088227511727ee27f54afb", func := "siphon/siphonlaw02.CsumSums", spec := "csumSums", unfollowed := true, recurses := true, apart := false }
def CsumSumsSaid : Prop := csumSumsRow.holds Try.pinned (OpenSpec.ofChange csumSumsSpec)

/-- ITS FALSE NEIGHBOUR: 'it returns false'. Refute it at one input. -/
def csumSumsWrong : ChangeSpec := { name := "csumSums", fn := fun _ => fun
  | [d] => { results := [.lit (.bool false)], args := [d] }
  | _ => none }
def CsumSumsWrongFalsely : Prop := csumSumsRow.holds Try.pinned (OpenSpec.ofChange csumSumsWrong)

/-- 'siphonlaw02.CsumPseudo': WHATEVER THE INPUT: true; the input reads as it did. -/
def csumPseudoSpec : ChangeSpec := { name := "csumPseudo", fn := fun _ => fun
  | [d] => { results := [.lit (.bool true)], args := [d] }
  | _ => none }
def csumPseudoRow : OpenClaim := { program := "ytcheceapcimbmaa", sum := "3633b8c134166671baff36b708e410d7acc33d8abb088227511727ee27f54afb", func := "siphon/siphonlaw02.CsumPseudo", spec := "csumPseudo", unfollowed := true, recurses := true, apart := false }
def CsumPseudoSaid : Prop := csumPseudoRow.holds Try.pinned (OpenSpec.ofChange csumPseudoSpec)

/-- ITS FALSE NEIGHBOUR: 'it returns false'. Refute it at one input. -/
def csumPseudoWrong : ChangeSpec := { name := "csumPseudo", fn := fun _ => fun
  | [d] => { results := [.lit (.bool false)], args := [d] }
  | _ => none }
def CsumPseudoWrongFalsely : Prop := csumPseudoRow.holds Try.pinned (OpenSpec.ofChange csumPseudoWrong)

/-- 'siphonlaw02.CsumFills': WHATEVER THE INPUT: true; the input reads as it did. -/
def csumFillsSpec : ChangeSpec := { name := "csumFills", fn := fun _ => fun
  | [d1, d2, d3] => { results := [.lit (.bool true)], args := [d1, d2, d3] }
  | _ => none }
def csumFillsRow : OpenClaim := { program := "ytcheceapcimbmaa", sum := "3633b8c134166671baff36b708e410d7acc33d8abb088227511727ee27f54afb", func := "siphon/siphonlaw02.CsumFills", spec := "csumFills", unfollowed := true, recurses := true, apart := false }
def CsumFillsSaid : Prop := csumFillsRow.holds Try.pinned (OpenSpec.ofChange csumFillsSpec)

/-- ITS FALSE NEIGHBOUR: 'it returns false'. Refute it at one input. -/
def csumFillsWrong : ChangeSpec := { name := "csumFills", fn := fun _ => fun
  | [d1, d2, d3] => { results := [.lit (.bool false)], args := [d1, d2, d3] }
  | _ => none }
def CsumFillsWrongFalsely : Prop := csumFillsRow.holds Try.pinned (OpenSpec.ofChange csumFillsWrong)

/-- 'siphonlaw02.CsumOrder': WHATEVER THE INPUT: true; the input reads as it did. -/
def csumOrderSpec : ChangeSpec := { name := "csumOrder", fn := fun _ => fun
  | [d1, d2, d3] => { results := [.lit (.bool true)], args := [d1, d2, d3] }
  | _ => none }
def csumOrderRow : OpenClaim := { program := "ytcheceapcimbmaa", sum := "3633b8c134166671baff36b708e410d7acc33d8abb088227511727ee27f54afb", func := "siphon/siphonlaw02.CsumOrder", spec := "csumOrder", unfollowed := true, recurses := true, apart := false }
def CsumOrderSaid : Prop := csumOrderRow.holds Try.pinned (OpenSpec.ofChange csumOrderSpec)

/-- ITS FALSE NEIGHBOUR: 'it returns false'. Refute it at one input. -/
def csumOrderWrong : ChangeSpec := { name := "csumOrder", fn := fun _ => fun
  | [d1, d2, d3] => { results := [.lit (.bool false)], args := [d1, d2, d3] }
  | _ => none }
def CsumOrderWrongFalsely : Prop := csumOrderRow.holds Try.pinned (OpenSpec.ofChange csumOrderWrong)

/-- 'siphonlaw02.CsumTurned': WHATEVER THE INPUT: true; the input reads as it did. -/
def csumTurnedSpec : ChangeSpec := { name := "csumTurned", fn := fun _ => fun
  | [d1, d2] => { results := [.lit (.bool true)], args := [d1, d2] }
  | _ => none }
def csumTurnedRow : OpenClaim := { program := "ytcheceapcimbmaa", sum := "3633b8c134166671baff36b708e410d7acc33d8abb088227511727ee27f54afb", func := "siphon/siphonlaw02.CsumTurned", spec := "csumTurned", unfollowed := true, recurses := true, apart := false }
def CsumTurnedSaid : Prop := csumTurnedRow.holds Try.pinned (OpenSpec.ofChange csumTurnedSpec)

/-- ITS FALSE NEIGHBOUR: 'it returns false'. Refute it at one input. -/
def csumTurnedWrong : ChangeSpec := { name := "csumTurned", fn := fun _ => fun
  | [d1, d2] => { results := [.lit (.bool false)], args := [d1, d2] }
  | _ => none }
def CsumTurnedWrongFalsely : Prop := csumTurnedRow.holds Try.pinned (OpenSpec.ofChange csumTurnedWrong)

/-- 'siphonlaw02.CsumAgain': WHATEVER THE INPUT: true; the input reads as it did. -/
def csumAgainSpec : ChangeSpec := { name := "csumAgain", fn := fun _ => fun
  | [d1, d2, d3] => { results := [.lit (.bool true)], args := [d1, d2, d3] }
  | _ => none }
def csumAgainRow : OpenClaim := { program := "ytcheceapcimbmaa", sum := "3633b8c134166671baff36b708e410d7acc33d8abb088227511727ee27f54afb", func := "siphon/siphonlaw02.CsumAgain", spec := "csumAgain", unfollowed := true, recurses := true, apart := false }
def CsumAgainSaid : Prop := csumAgainRow.holds Try.pinned (OpenSpec.ofChange csumAgainSpec)

/-- ITS FALSE NEIGHBOUR: 'it returns false'. Refute it at one input. -/
def csumAgainWrong : ChangeSpec := { name := "csumAgain", fn := fun _ => fun
  | [d1, d2, d3] => { results := [.lit (.bool false)], args := [d1, d2, d3] }
  | _ => none }
def CsumAgainWrongFalsely : Prop := csumAgainRow.holds Try.pinned (OpenSpec.ofChange csumAgainWrong)

/- THE SECOND FORM. 'bulk': how many values and letters a reading holds, each counted each time it is reached (what is shared counts as often as it is met; a slice's spare places count too). A statement '..UptoSaid' is the law's where the arguments, and the package variables that the reading takes, are together of bulk at most 1048576: NARROWER than '..Said'. Prove '..Said' where nothing that the law and all that it calls make is longer than what came in: it says more and counts as full. Else prove '..UptoSaid'. A law counts once. -/
mutual
def uptoBulk {H : Type} : DataW H → Nat
  | .lit (.string bytes) => bytes.length + 1
  | .lit _ => 1
  | .nil => 1
  | .ptr d => uptoBulk d + 1
  | .slice elems spare => uptoBulkAll elems + uptoBulkAll spare + 1
  | .agg parts => uptoBulkAll parts + 1
  | .iface _ d => uptoBulk d + 1
  | .map entries => uptoBulkEntries entries + 1
  | .held _ => 1
def uptoBulkAll {H : Type} : List (DataW H) → Nat
  | [] => 0
  | d :: r => uptoBulk d + uptoBulkAll r
def uptoBulkEntries {H : Type} : List (Lit × DataW H) → Nat
  | [] => 0
  | x :: r => uptoBulkEntry x + uptoBulkEntries r
def uptoBulkEntry {H : Type} : Lit × DataW H → Nat
  | (.string bytes, d) => bytes.length + uptoBulk d + 1
  | (_, d) => uptoBulk d + 1
 end
def uptoSmall : (H : Type) → List (DataW H) → Bool := fun _ ds => decide (uptoBulkAll ds ≤ 1048576)
def OpenSpec.upto (s : _root_.Go.ChangeSpec) : _root_.Go.OpenSpec := { _root_.Go.OpenSpec.ofChange s with cond := some uptoSmall }

/-- 'siphonlaw02.CsumSums', WHERE WHAT IT READS IS OF BULK AT MOST 1048576: true; the input reads as it did. -/
def csumSumsUptoRow : OpenClaim := { program := "ytcheceapcimbmaa", sum := "3633b8c134166671baff36b708e410d7acc33d8abb088227511727ee27f54afb", func := "siphon/siphonlaw02.CsumSums", spec := "csumSums", unfollowed := true, recurses := true, apart := false, narrowed := true }
def CsumSumsUptoSaid : Prop := csumSumsUptoRow.holds Try.pinned (OpenSpec.upto csumSumsSpec)

/-- 'siphonlaw02.CsumPseudo', WHERE WHAT IT READS IS OF BULK AT MOST 1048576: true; the input reads as it did. -/
def csumPseudoUptoRow : OpenClaim := { program := "ytcheceapcimbmaa", sum := "3633b8c134166671baff36b708e410d7acc33d8abb088227511727ee27f54afb", func := "siphon/siphonlaw02.CsumPseudo", spec := "csumPseudo", unfollowed := true, recurses := true, apart := false, narrowed := true }
def CsumPseudoUptoSaid : Prop := csumPseudoUptoRow.holds Try.pinned (OpenSpec.upto csumPseudoSpec)

/-- 'siphonlaw02.CsumFills', WHERE WHAT IT READS IS OF BULK AT MOST 1048576: true; the input reads as it did. -/
def csumFillsUptoRow : OpenClaim := { program := "ytcheceapcimbmaa", sum := "3633b8c134166671baff36b708e410d7acc33d8abb088227511727ee27f54afb", func := "siphon/siphonlaw02.CsumFills", spec := "csumFills", unfollowed := true, recurses := true, apart := false, narrowed := true }
def CsumFillsUptoSaid : Prop := csumFillsUptoRow.holds Try.pinned (OpenSpec.upto csumFillsSpec)

/-- 'siphonlaw02.CsumOrder', WHERE WHAT IT READS IS OF BULK AT MOST 1048576: true; the input reads as it did. -/
def csumOrderUptoRow : OpenClaim := { program := "ytcheceapcimbmaa", sum := "3633b8c134166671baff36b708e410d7acc33d8abb088227511727ee27f54afb", func := "siphon/siphonlaw02.CsumOrder", spec := "csumOrder", unfollowed := true, recurses := true, apart := false, narrowed := true }
def CsumOrderUptoSaid : Prop := csumOrderUptoRow.holds Try.pinned (OpenSpec.upto csumOrderSpec)

/-- 'siphonlaw02.CsumTurned', WHERE WHAT IT READS IS OF BULK AT MOST 1048576: true; the input reads as it did. -/
def csumTurnedUptoRow : OpenClaim := { program := "ytcheceapcimbmaa", sum := "3633b8c134166671baff36b708e410d7acc33d8abb088227511727ee27f54afb", func := "siphon/siphonlaw02.CsumTurned", spec := "csumTurned", unfollowed := true, recurses := true, apart := false, narrowed := true }
def CsumTurnedUptoSaid : Prop := csumTurnedUptoRow.holds Try.pinned (OpenSpec.upto csumTurnedSpec)

/-- 'siphonlaw02.CsumAgain', WHERE WHAT IT READS IS OF BULK AT MOST 1048576: true; the input reads as it did. -/
def csumAgainUptoRow : OpenClaim := { program := "ytcheceapcimbmaa", sum := "3633b8c134166671baff36b708e410d7acc33d8abb088227511727ee27f54afb", func := "siphon/siphonlaw02.CsumAgain", spec := "csumAgain", unfollowed := true, recurses := true, apart := false, narrowed := true }
def CsumAgainUptoSaid : Prop := csumAgainUptoRow.holds Try.pinned (OpenSpec.upto csumAgainSpec)

end Rows
end Go.Proofs.Ytcheceapcimbmaa
