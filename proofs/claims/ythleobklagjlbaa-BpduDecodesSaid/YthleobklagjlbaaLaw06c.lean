/-
  The walk of 'BpduDecodes': it returns true and leaves what was there alone. Condition: the text's length lies within the form's own reach.
-/
import Derived.Test.YthleobklagjlbaaRBpB
import Derived.Test.YthleobklagjlbaaLaw06b
namespace Go.Proofs.Ythleobklagjlbaa
open Go.RowKit

def RDecs (s : ByteArray) (r c b p a : Int) (x y z : Bool) (e0 : Int) : Prop :=
  ∀ w : World, Calls Try.prog 10 #[.string s] w fun e w' => e = .returned (.tuple #[.agg #[.int .u64 r, .int .i64 c, .int .u64 b, .int .i64 p, .int .i64 a, .bool x, .bool y, .bool z], .int .i64 e0]) ∧ Below w.heap.size w w'
theorem RDecs.to {s : ByteArray} {r c b p a : Int} {x y z : Bool} {e0 : Int} (h : RDecs s r c b p a x y z e0) (w : World) :
  Calls Try.prog 10 #[.string s] w fun e w' => e = .returned (.tuple #[.agg #[.int .u64 r, .int .i64 c, .int .u64 b, .int .i64 p, .int .i64 a, .bool x, .bool y, .bool z], .int .i64 e0]) ∧ Below w.heap.size w w' := h w

set_option maxRecDepth 100000 in
set_option maxHeartbeats 1000000 in
theorem decodes_in (s : ByteArray) (r c b p a : Int) (x y z : Bool) (e0 : Int) (hD : Decs s r c b p a x y z e0) (hE : RDecs s r c b p a x y z e0) (w : World) :
    Calls Try.prog 3 #[.string s] w fun e w' => e = .returned (.bool true) ∧ Below w.heap.size w w' := by
  have hl := live06
  have HL := Lib.hid hl
  clear hl
  go_enter Try.func3, Try.ntmps3
  go_wp2_with (first | ((with_reducible refine (hD.to _).mono ?_); rintro e w2 ⟨rfl, g2⟩) | ((with_reducible refine (hE.to _).mono ?_); rintro e w3 ⟨rfl, g3⟩; obtain ⟨z3, c0, c1, c2, c3, c4, c5, c6, c7⟩ := box8 g3) | ((with_reducible refine (HL.out _).mono ?_); rintro e w4 ⟨rfl, g4⟩))
  go_ret
  exact ⟨rfl, bstep (ball (bstep (ball g2 _) g3) _) g4⟩

theorem decodes_walk (s : ByteArray) (hs : s.size ≤ 140737488351232) (w : World) :
    Calls Try.prog 3 #[.string s] w fun e w' => e = .returned (.bool true) ∧ Below w.heap.size w w' := by
  by_cases h : s.size < 39
  · exact decodes_in s 0 0 0 0 0 false false false 2 (decs_cut s h) (fun w => rdec_cut s h w) w
  · rcases hg : Bp.good s.data.toList with _ | _
    · exact decodes_in s 0 0 0 0 0 false false false 3 (decs_form s (by omega) (by omega) hg) (fun w => rdec_form s (by omega) (by omega) hg w) w
    · exact decodes_in s _ _ _ _ _ _ _ _ 0 (decs_ok s (by omega) (by omega) (reads_self _ hg)) (fun w => rdec_ok s (by omega) (by omega) hg w) w
end Go.Proofs.Ythleobklagjlbaa
