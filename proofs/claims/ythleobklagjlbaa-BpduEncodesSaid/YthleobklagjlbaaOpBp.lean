/-
  A tree's message that comes in by value, opened: its eight cells. Conditions: none.
-/
import Derived.Test.YthleobklagjlbaaRows
import Derived.OpenShut
import Derived.ChangeArms
import Derived.WideShapes
import Derived.Test.YthleobklagjlbaaRows
import Derived.WalkKit
import Derived.ProofKit
import Derived.ShutString
import Derived.ChangeOld
import Derived.SizedLaws
import Derived.Lib.SmallJoins
namespace Go.Proofs.Ythleobklagjlbaa
open Go.ChangeShapes Go.WideShapes Go.ChangeAt Go.RowKit Go.Joins

section
variable {H : Type} {enc : TypeId × Value → H} {w : World} {base : Nat} {spare : Nat → Bool} {held : Bool}
theorem open_bpdu {r : Reach} {b0 : Nat} {v : Value} {d : DataW H} {q : List MemPlace} (hv : Value.okWide Try.prog w r b0 26 v) (h : DataW.Trod enc Try.prog w base spare held 26 v d q) :
    ∃ (r c b p a : Int) (x y z : Bool), v = .agg #[.int .u64 r, .int .i64 c, .int .u64 b, .int .i64 p, .int .i64 a, .bool x, .bool y, .bool z] ∧
      (Lit.int .u64 r).wf = true ∧ (Lit.int .i64 c).wf = true ∧ (Lit.int .u64 b).wf = true ∧ (Lit.int .i64 p).wf = true ∧ (Lit.int .i64 a).wf = true := by
  obtain ⟨cs, rfl, hsz⟩ := okWide_struct Try.underlying26 hv
  obtain ⟨l⟩ := cs
  match l, hsz.trans (show Try.prog.cellsOf 26 = 8 by kernel_rfl) with
  | [c0, c1, c2, c3, c4, c5, c6, c7], _ =>
    obtain ⟨fuel, hf⟩ := h
    obtain ⟨xs, n, _, hx, _, hlen, hg⟩ := DataW.trod_struct Try.underlying26 hf
    have e1 : Try.prog.cellsOf 3 = 1 := by kernel_rfl
    have e2 : Try.prog.cellsOf 22 = 1 := by kernel_rfl
    have e3 : Try.prog.cellsOf 4 = 1 := by kernel_rfl
    have e4 : Try.prog.cellsOf 24 = 4 := by kernel_rfl
    match xs, hlen with
    | [y0, y1, y2, y3, y4], _ =>
      have g0 : DataW.trod enc Try.prog w base spare held n 24 [c0, c1, c2, c3] = some y0 := by simpa [Value.cells, e4] using hg 0 _ rfl
      have g1 : DataW.trod enc Try.prog w base spare held n 3 [c4] = some y1 := by simpa [Value.cells, e1] using hg 1 _ rfl
      have g2 : DataW.trod enc Try.prog w base spare held n 4 [c5] = some y2 := by simpa [Value.cells, e3] using hg 2 _ rfl
      have g3 : DataW.trod enc Try.prog w base spare held n 4 [c6] = some y3 := by simpa [Value.cells, e3] using hg 3 _ rfl
      have g4 : DataW.trod enc Try.prog w base spare held n 4 [c7] = some y4 := by simpa [Value.cells, e3] using hg 4 _ rfl
      obtain ⟨zs, m, _, _, _, hl2, hh⟩ := DataW.trod_struct Try.underlying24 g0
      match zs, hl2 with
      | [z0, z1, z2, z3], _ =>
        have k0 : DataW.trod enc Try.prog w base spare held m 22 [c0] = some z0 := by simpa [Value.cells, e2] using hh 0 _ rfl
        have k1 : DataW.trod enc Try.prog w base spare held m 3 [c1] = some z1 := by simpa [Value.cells, e1] using hh 1 _ rfl
        have k2 : DataW.trod enc Try.prog w base spare held m 22 [c2] = some z2 := by simpa [Value.cells, e2] using hh 2 _ rfl
        have k3 : DataW.trod enc Try.prog w base spare held m 3 [c3] = some z3 := by simpa [Value.cells, e1] using hh 3 _ rfl
        obtain ⟨r, q0, _, w0⟩ := DataW.trod_int (k := .u64) (by kernel_rfl) k0
        obtain ⟨c, q1, _, w1⟩ := DataW.trod_int (k := .i64) (by kernel_rfl) k1
        obtain ⟨b, q2, _, w2⟩ := DataW.trod_int (k := .u64) (by kernel_rfl) k2
        obtain ⟨p, q3, _, w3⟩ := DataW.trod_int (k := .i64) (by kernel_rfl) k3
        obtain ⟨a, q4, _, w4⟩ := DataW.trod_int (k := .i64) (by kernel_rfl) g1
        obtain ⟨x, q5, _⟩ := DataW.trod_bool (by kernel_rfl) g2
        obtain ⟨y, q6, _⟩ := DataW.trod_bool (by kernel_rfl) g3
        obtain ⟨z, q7, _⟩ := DataW.trod_bool (by kernel_rfl) g4
        obtain rfl := List.head_eq_of_cons_eq q0
        obtain rfl := List.head_eq_of_cons_eq q1
        obtain rfl := List.head_eq_of_cons_eq q2
        obtain rfl := List.head_eq_of_cons_eq q3
        obtain rfl := List.head_eq_of_cons_eq q4
        obtain rfl := List.head_eq_of_cons_eq q5
        obtain rfl := List.head_eq_of_cons_eq q6
        obtain rfl := List.head_eq_of_cons_eq q7
        exact ⟨r, c, b, p, a, x, y, z, rfl, w0, w1, w2, w3, w4⟩
end
end Go.Proofs.Ythleobklagjlbaa
