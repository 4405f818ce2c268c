/-
  What the document's own At and Of (siphonref01) compute, as facts that a walk does not look into. Conditions: those of each.
-/
import Derived.Test.YthpdfihmpoofaaaRGet
import Derived.Test.YthpdfihmpoofaaaROf
namespace Go.Proofs.Ythpdfihmpoofaaa
open Go.RowKit

theorem rat_ok (s : ByteArray) (a n : Nat) (hs : s.size ≤ 9223372036854775807) (h1 : 1 ≤ n) (h4 : n ≤ 4) (h : a + n ≤ s.size) (w : World) :
    Calls Try.prog 20 #[.string s, .int .i64 a, .int .i64 n] w fun e w' => e = .returned (.int .i64 (Pl.num ((s.data.toList.drop a).take n))) ∧ Below w.heap.size w w' := by
  have hg := fun w => rget_ok s a n hs h1 h4 h w
  go_enter Try.func20, Try.ntmps20
  go_wp2_with ((with_reducible refine (hg _).mono ?_); rintro e w1 ⟨rfl, g1⟩)
  go_ret
  exact ⟨rfl, g1⟩
def RAts (s : ByteArray) (a k n : Int) : Prop :=
  ∀ w : World, Calls Try.prog 20 #[.string s, .int .i64 a, .int .i64 k] w fun e w' => e = .returned (.int .i64 n) ∧ Below w.heap.size w w'
theorem RAts.to {s : ByteArray} {a k n : Int} (h : RAts s a k n) (w : World) : Calls Try.prog 20 #[.string s, .int .i64 a, .int .i64 k] w fun e w' => e = .returned (.int .i64 n) ∧ Below w.heap.size w w' := h w
theorem rats_ok (s : ByteArray) (a n : Nat) (hs : s.size ≤ 9223372036854775807) (h1 : 1 ≤ n) (h4 : n ≤ 4) (h : a + n ≤ s.size) : RAts s a n (Pl.num ((s.data.toList.drop a).take n)) := fun w => rat_ok s a n hs h1 h4 h w
def ROfs (n m : Int) (v : ByteArray) : Prop :=
  ∀ w : World, Calls Try.prog 27 #[.int .i64 n, .int .i64 m] w fun e w' => e = .returned (.string v) ∧ Below w.heap.size w w'
theorem ROfs.to {n m : Int} {v : ByteArray} (h : ROfs n m v) (w : World) : Calls Try.prog 27 #[.int .i64 n, .int .i64 m] w fun e w' => e = .returned (.string v) ∧ Below w.heap.size w w' := h w
theorem rofs1 (n : Nat) (h : n < 256) : ROfs n 1 ⟨(Pl.be 1 n).toArray⟩ := fun w => rof1 n h w
theorem rofs2 (n : Nat) (h : n < 65536) : ROfs n 2 ⟨(Pl.be 2 n).toArray⟩ := fun w => rof2 n h w
end Go.Proofs.Ythpdfihmpoofaaa
