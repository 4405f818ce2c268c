/-
  A text with its sum put in, with no program in sight. Conditions: none.
-/
import Derived.Test.YtoljmeemejmjfaaCsPl
namespace Go.Proofs.Ytoljmeemejmjfaa.Cs

/-- what is summed: two bytes 0 where the sum will stand -/
def gap (p s : ByteArray) (a : Nat) : ByteArray := p ++ s.extract 0 a ++ ⟨#[0, 0]⟩ ++ s.extract (a + 2) s.size
def filled (p s : ByteArray) (a : Nat) : ByteArray := s.extract 0 a ++ ⟨(Pl.be 2 (sum (gap p s a).data.toList)).toArray⟩ ++ s.extract (a + 2) s.size
end Go.Proofs.Ytoljmeemejmjfaa.Cs
