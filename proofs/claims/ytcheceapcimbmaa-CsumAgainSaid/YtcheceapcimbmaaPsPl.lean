/-
  What stands ahead of a message in its sum, with no program in sight. Conditions: none.
-/
import Derived.Test.YtcheceapcimbmaaPl
namespace Go.Proofs.Ytcheceapcimbmaa.Cs
def ps4 (a b : ByteArray) (n p : Nat) : ByteArray := a ++ b ++ ⟨#[0]⟩ ++ ⟨(Pl.be 1 p).toArray⟩ ++ ⟨(Pl.be 2 n).toArray⟩
def ps16 (a b : ByteArray) (n p : Nat) : ByteArray := a ++ b ++ ⟨#[0, 0]⟩ ++ ⟨(Pl.be 2 n).toArray⟩ ++ ⟨#[0, 0, 0]⟩ ++ ⟨(Pl.be 1 p).toArray⟩
end Go.Proofs.Ytcheceapcimbmaa.Cs
