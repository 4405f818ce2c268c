/-
  An array of bytes that comes in by value, opened: the bytes that it is. Conditions: none.
-/
import Derived.Test.YthpdfihmpoofaaaRows
import Derived.OpenShut
import Derived.ChangeArms
import Derived.WideShapes
import Derived.WalkKit
import Derived.ProofKit
import Derived.ShutString
import Derived.ChangeOld
import Derived.SizedLaws
import Derived.Lib.SmallJoins
namespace Go.Proofs.Ythpdfihmpoofaaa
open Go.ChangeShapes Go.WideShapes Go.ChangeAt Go.RowKit

section
variable {H : Type} {enc : TypeId × Value → H} {w : World} {base : Nat} {spare : Nat → Bool} {held : Bool}
theorem okWide_rowOf {t e : TypeId} {n : Nat} {v : Value} {r : Reach} {b0 : Nat} (ht : Try.prog.underlying t = some (.array n e)) (h : Value.okWide Try.prog w r b0 t v) : ∃ cs, v = .agg cs ∧ cs.size = Try.prog.cellsOf t := by
  simp only [Value.okWide, ht] at h
  obtain ⟨cs, h1, h2, _⟩ := h
  exact ⟨cs, h1, h2⟩

/-- the cells of an array of bytes are bytes -/
theorem trod_bytes {t e : TypeId} {n fuel : Nat} {cs : List Value} {x : DataW H × List MemPlace} (ht : Try.prog.underlying t = some (.array n e)) (he : Try.prog.underlying e = some (.int .u8)) (hce : Try.prog.cellsOf e = 1) (hcn : Try.prog.cellsOf t = n)
    (h : DataW.trod enc Try.prog w base spare held fuel t cs = some x) : ∃ ms : List UInt8, ms.length = n ∧ cs = ms.map fun b => Value.int .u8 (b.toNat : Int) := by
  obtain ⟨xs, m, _, _, hl, hx, hg⟩ := DataW.trod_array ht h
  rw [hcn] at hl
  have hi : ∀ i (hi : i < n), ∃ b : UInt8, cs[i]'(by omega) = .int .u8 (b.toNat : Int) := by
    intro i hi
    have h1 := hg i hi
    rw [hce, Nat.mul_one, List.getElem?_eq_getElem (by omega)] at h1
    obtain ⟨a, e1, _, w1⟩ := DataW.trod_int (k := .u8) he h1
    obtain ⟨l, u⟩ := Go.bounds_u8 w1
    rw [List.drop_eq_getElem_cons (by omega)] at e1
    refine ⟨UInt8.ofNat a.toNat, ?_⟩
    have e2 := List.head_eq_of_cons_eq e1
    rw [e2, UInt8.toNat_ofNat', Nat.mod_eq_of_lt (by omega)]
    congr 1
    omega
  refine ⟨cs.map fun v => match v with | .int _ a => UInt8.ofNat a.toNat | _ => 0, by simp [hl], ?_⟩
  apply List.ext_getElem
  · simp
  · intro i h1 h2
    obtain ⟨b, hb⟩ := hi i (by omega)
    simp [hb]

theorem open_bytes {t e : TypeId} {n : Nat} {v : Value} {d : DataW H} {q : List MemPlace} {r : Reach} {b0 : Nat} (ht : Try.prog.underlying t = some (.array n e)) (he : Try.prog.underlying e = some (.int .u8)) (hce : Try.prog.cellsOf e = 1) (hcn : Try.prog.cellsOf t = n)
    (hv : Value.okWide Try.prog w r b0 t v) (h : DataW.Trod enc Try.prog w base spare held t v d q) : ∃ ms : List UInt8, ms.length = n ∧ v = .agg (ms.map fun b => Value.int .u8 (b.toNat : Int)).toArray := by
  obtain ⟨cs, rfl, hsz⟩ := okWide_rowOf ht hv
  obtain ⟨fuel, hf⟩ := h
  obtain ⟨ms, h1, h2⟩ := trod_bytes ht he hce hcn hf
  refine ⟨ms, h1, ?_⟩
  have h3 : cs.toList = ms.map fun b => Value.int .u8 (b.toNat : Int) := h2
  rw [← h3]
end
end Go.Proofs.Ythpdfihmpoofaaa
