/-
  A value of type api.Frame that comes in, opened: its cells. Conditions: none.
-/
import Derived.Test.YtpninodcjglboaaRows
import Derived.OpenShut
import Derived.ChangeArms
import Derived.WideShapes
import Derived.WalkKit
import Derived.ProofKit
import Derived.ShutString
import Derived.ChangeOld
import Derived.SizedLaws
import Derived.Lib.SmallJoins
namespace Go.Proofs.Ytpninodcjglboaa
open Go.ChangeShapes Go.WideShapes Go.ChangeAt Go.RowKit Go.Joins

section
variable {H : Type} {enc : TypeId × Value → H} {w : World} {base : Nat} {spare : Nat → Bool} {held : Bool}
/-- the cells of such a value -/
theorem open_frame_cells {fuel : Nat} {cs : List Value} {x : DataW H × List MemPlace} (hsz : cs.length = 7) (h : DataW.trod enc Try.prog w base spare held fuel 25 cs = some x) :
    ∃ (a0 : ByteArray) (a1 : ByteArray) (a2 : Bool) (a3 : Int) (a4 : Int) (a5 : Int) (a6 : ByteArray), cs = [.string a0, .string a1, .bool a2, .int .i64 a3, .int .i64 a4, .int .i64 a5, .string a6] ∧ x.1 = .agg [.lit (.string a0.data.toList), .lit (.string a1.data.toList), .lit (.bool a2), .lit (.int .i64 a3), .lit (.int .i64 a4), .lit (.int .i64 a5), .lit (.string a6.data.toList)] ∧ (Lit.int .i64 a3).wf = true ∧ (Lit.int .i64 a4).wf = true ∧ (Lit.int .i64 a5).wf = true := by
  match cs, hsz with
  | [c0, c1, c2, c3, c4, c5, c6], _ =>
    obtain ⟨xs, n, _, hx, _, hlen, hg⟩ := DataW.trod_struct Try.underlying25 h
    have e0 : Try.prog.cellsOf 23 = 1 := by kernel_rfl
    have e1 : Try.prog.cellsOf 4 = 1 := by kernel_rfl
    have e2 : Try.prog.cellsOf 3 = 1 := by kernel_rfl
    have e3 : Try.prog.cellsOf 9 = 1 := by kernel_rfl
    match xs, hlen with
    | [y0, y1, y2, y3, y4, y5, y6], _ =>
      have g0 : DataW.trod enc Try.prog w base spare held n 23 [c0] = some y0 := by simpa [Value.cells, e0, e1, e2, e3] using hg 0 _ rfl
      have g1 : DataW.trod enc Try.prog w base spare held n 23 [c1] = some y1 := by simpa [Value.cells, e0, e1, e2, e3] using hg 1 _ rfl
      have g2 : DataW.trod enc Try.prog w base spare held n 4 [c2] = some y2 := by simpa [Value.cells, e0, e1, e2, e3] using hg 2 _ rfl
      have g3 : DataW.trod enc Try.prog w base spare held n 3 [c3] = some y3 := by simpa [Value.cells, e0, e1, e2, e3] using hg 3 _ rfl
      have g4 : DataW.trod enc Try.prog w base spare held n 3 [c4] = some y4 := by simpa [Value.cells, e0, e1, e2, e3] using hg 4 _ rfl
      have g5 : DataW.trod enc Try.prog w base spare held n 3 [c5] = some y5 := by simpa [Value.cells, e0, e1, e2, e3] using hg 5 _ rfl
      have g6 : DataW.trod enc Try.prog w base spare held n 9 [c6] = some y6 := by simpa [Value.cells, e0, e1, e2, e3] using hg 6 _ rfl
      obtain ⟨a0, q0, d0, _⟩ := DataW.trod_string (by kernel_rfl) g0
      obtain ⟨a1, q1, d1, _⟩ := DataW.trod_string (by kernel_rfl) g1
      obtain ⟨a2, q2, d2⟩ := DataW.trod_bool (by kernel_rfl) g2
      obtain ⟨a3, q3, d3, w3⟩ := DataW.trod_int (k := .i64) (by kernel_rfl) g3
      obtain ⟨a4, q4, d4, w4⟩ := DataW.trod_int (k := .i64) (by kernel_rfl) g4
      obtain ⟨a5, q5, d5, w5⟩ := DataW.trod_int (k := .i64) (by kernel_rfl) g5
      obtain ⟨a6, q6, d6, _⟩ := DataW.trod_string (by kernel_rfl) g6
      obtain rfl := List.head_eq_of_cons_eq q0
      obtain rfl := List.head_eq_of_cons_eq q1
      obtain rfl := List.head_eq_of_cons_eq q2
      obtain rfl := List.head_eq_of_cons_eq q3
      obtain rfl := List.head_eq_of_cons_eq q4
      obtain rfl := List.head_eq_of_cons_eq q5
      obtain rfl := List.head_eq_of_cons_eq q6
      refine ⟨a0, a1, a2, a3, a4, a5, a6, rfl, ?_, w3, w4, w5⟩
      rw [hx]
      show DataW.agg [y0.1, y1.1, y2.1, y3.1, y4.1, y5.1, y6.1] = _
      rw [d0, d1, d2, d3, d4, d5, d6]

theorem open_frame {r : Reach} {b0 : Nat} {v : Value} {d : DataW H} {q : List MemPlace} (hv : Value.okWide Try.prog w r b0 25 v) (h : DataW.Trod enc Try.prog w base spare held 25 v d q) :
    ∃ (a0 : ByteArray) (a1 : ByteArray) (a2 : Bool) (a3 : Int) (a4 : Int) (a5 : Int) (a6 : ByteArray), v = .agg #[.string a0, .string a1, .bool a2, .int .i64 a3, .int .i64 a4, .int .i64 a5, .string a6] ∧ d = .agg [.lit (.string a0.data.toList), .lit (.string a1.data.toList), .lit (.bool a2), .lit (.int .i64 a3), .lit (.int .i64 a4), .lit (.int .i64 a5), .lit (.string a6.data.toList)] ∧ (Lit.int .i64 a3).wf = true ∧ (Lit.int .i64 a4).wf = true ∧ (Lit.int .i64 a5).wf = true := by
  obtain ⟨cs, rfl, hsz⟩ := okWide_struct Try.underlying25 hv
  obtain ⟨fuel, hf⟩ := h
  obtain ⟨l⟩ := cs
  obtain ⟨a0, a1, a2, a3, a4, a5, a6, rfl, hd, hw⟩ := open_frame_cells (hsz.trans (show Try.prog.cellsOf 25 = 7 by kernel_rfl)) hf
  exact ⟨a0, a1, a2, a3, a4, a5, a6, rfl, hd, hw⟩
end
end Go.Proofs.Ytpninodcjglboaa
