/-
  What the reference's Of (siphonref01) computes: the bytes of a number that fits. Condition: one to four bytes, and the number fits.
-/
import Derived.Test.YthpdfihmpoofaaaRPut
namespace Go.Proofs.Ythpdfihmpoofaaa
open Go.RowKit

theorem rof_ok (n m : Nat) (h1 : 1 ≤ m) (h4 : m ≤ 4) (h : n < 256 ^ m) (hn : n ≤ 9223372036854775807) (w : World) :
    Calls Try.prog 27 #[.int .i64 n, .int .i64 m] w fun e w' => e = .returned (.string ⟨(Pl.be m n).toArray⟩) ∧ Below w.heap.size w w' := by
  go_enter Try.func27, Try.ntmps27
  go_wp2_with ((with_reducible refine (rput_ok n m h1 h4 h hn _).mono ?_); rintro e w1 ⟨rfl, h1⟩)
  go_ret
  exact ⟨rfl, h1⟩

theorem rof1 (n : Nat) (h : n < 256) (w : World) :
    Calls Try.prog 27 #[.int .i64 n, .int .i64 1] w fun e w' => e = .returned (.string ⟨(Pl.be 1 n).toArray⟩) ∧ Below w.heap.size w w' := rof_ok n 1 (by decide) (by decide) (by omega) (by omega) w
theorem rof2 (n : Nat) (h : n < 65536) (w : World) :
    Calls Try.prog 27 #[.int .i64 n, .int .i64 2] w fun e w' => e = .returned (.string ⟨(Pl.be 2 n).toArray⟩) ∧ Below w.heap.size w w' := rof_ok n 2 (by decide) (by decide) (by omega) (by omega) w
theorem rof4 (n : Nat) (h : n < 4294967296) (w : World) :
    Calls Try.prog 27 #[.int .i64 n, .int .i64 4] w fun e w' => e = .returned (.string ⟨(Pl.be 4 n).toArray⟩) ∧ Below w.heap.size w w' := rof_ok n 4 (by decide) (by decide) (by omega) (by omega) w
end Go.Proofs.Ythpdfihmpoofaaa
