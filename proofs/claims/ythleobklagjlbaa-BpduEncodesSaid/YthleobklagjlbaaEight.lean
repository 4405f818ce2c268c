/-
  What octet.Eight computes. Condition: the number is one of its kind.
-/
import Derived.Test.YthleobklagjlbaaBytes
namespace Go.Proofs.Ythleobklagjlbaa
open Go.RowKit

theorem eight_any (n : Nat) (w : World) :
    Calls Try.prog 22 #[.int .u64 n] w fun e w' => e = .returned (.string ⟨(Pl.be 8 n).toArray⟩) ∧ Below w.heap.size w w' := by
  go_enter Try.func22, Try.ntmps22
  go_wp2_with ((with_reducible refine (bytes8 n _).mono ?_); rintro e w' ⟨rfl, hbel⟩)
  go_ret
  exact ⟨rfl, hbel⟩

end Go.Proofs.Ythleobklagjlbaa
