/-
  The six numbers of 'BpduFree', opened. Conditions: none.
-/
import Derived.Test.YthleobklagjlbaaOpArr
namespace Go.Proofs.Ythleobklagjlbaa
open Go.ChangeShapes Go.WideShapes Go.ChangeAt Go.RowKit
section
variable {H : Type} {enc : TypeId × Value → H} {w : World} {base : Nat} {spare : Nat → Bool} {held : Bool}
theorem open_six {r : Reach} {b0 : Nat} {v : Value} {d : DataW H} {q : List MemPlace} (hv : Value.okWide Try.prog w r b0 38 v) (h : DataW.Trod enc Try.prog w base spare held 38 v d q) :
    ∃ m0 m1 m2 m3 m4 m5 : UInt8, v = .agg #[.int .u8 m0.toNat, .int .u8 m1.toNat, .int .u8 m2.toNat, .int .u8 m3.toNat, .int .u8 m4.toNat, .int .u8 m5.toNat] := by
  obtain ⟨ms, h1, h2⟩ := open_bytes Try.underlying38 Try.underlying5 (by kernel_rfl) (by kernel_rfl) hv h
  match ms, h1 with
  | [m0, m1, m2, m3, m4, m5], _ => exact ⟨m0, m1, m2, m3, m4, m5, h2⟩
end
end Go.Proofs.Ythleobklagjlbaa
