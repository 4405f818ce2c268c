/-
  The walks of 'EtherBack', 'EtherForth' and 'EtherTags': each returns true and leaves what was there alone. Conditions: a text's length lies within the form's own reach.
-/
import Derived.Test.YthpdfihmpoofaaaLaw03
import Derived.Test.YthpdfihmpoofaaaEthLaw
namespace Go.Proofs.Ythpdfihmpoofaaa
open Go.RowKit

set_option maxRecDepth 100000 in
set_option maxHeartbeats 1000000 in
theorem ethback_walk (dst src : ByteArray) (tg : Bool) (vl pr ty : Int) (data : ByteArray) (z : data.size ≤ 140737488351232) (w : World) :
    Calls Try.prog 5 #[.agg #[.string dst, .string src, .bool tg, .int .i64 vl, .int .i64 pr, .int .i64 ty, .string data]] w fun e w' => e = .returned (.bool true) ∧ Below w.heap.size w w' := by
  have HL := Lib.hid live03
  by_cases hg : Good3 dst src tg vl pr ty data
  · obtain ⟨vl, pr, ty, rfl, rfl, rfl⟩ := good3_nat hg
    have hE := ence_ok dst src data tg vl pr ty hg
    have hD := dec_enc dst src data tg vl pr ty hg
    generalize (⟨(Et.enc dst.data.toList src.data.toList tg vl pr ty data.data.toList).toArray⟩ : ByteArray) = s at hE hD
    unfold fr at hD
    clear hg z
    go_enter Try.func5, Try.ntmps5
    go_wp2_with (first | ((with_reducible refine (hE.to _).mono ?_); rintro e w3 ⟨rfl, g3⟩; have B1 := (Box7.new _ _ _ _ _ _ _ _ _).below g3) | ((with_reducible refine (hD.to _).mono ?_); rintro e w5 ⟨rfl, g5⟩; obtain ⟨y1, c0, c1, c2, c3, c4, c5, c6, cf⟩ := B1.below g5) | ((with_reducible refine (HL.out _).mono ?_); rintro e w4 ⟨rfl, g4⟩))
    go_ret
    exact ⟨rfl, bstep (ball (bstep (bstep (bbox1 _ _) g3) g5) _) g4⟩
  · have hE := ence_arg dst src data tg vl pr ty (by omega) hg
    clear hg z
    go_enter Try.func5, Try.ntmps5
    go_wp2_with (first | ((with_reducible refine (hE.to _).mono ?_); rintro e w3 ⟨rfl, g3⟩) | ((with_reducible refine (HL.out _).mono ?_); rintro e w4 ⟨rfl, g4⟩))
    go_ret
    exact ⟨rfl, bstep (bstep (bbox1 _ _) g3) g4⟩

set_option maxRecDepth 100000 in
set_option maxHeartbeats 1000000 in
theorem ethforth_walk (s : ByteArray) (hs : s.size ≤ 140737488351232) (w : World) :
    Calls Try.prog 6 #[.string s] w fun e w' => e = .returned (.bool true) ∧ Below w.heap.size w w' := by
  have HL := Lib.hid live03
  rcases enc_dec s hs with ⟨x, hD, hx⟩ | ⟨dst, src, tg, data, vl, pr, ty, hD, hE⟩
  · have t1 : (x != 0) = true := by rw [bne_iff_ne]; exact hx
    unfold zeroF at hD
    clear hx hs
    go_enter Try.func6, Try.ntmps6
    go_wp2_with (first | ((with_reducible refine (hD.to _).mono ?_); rintro e w3 ⟨rfl, g3⟩) | ((with_reducible refine (HL.out _).mono ?_); rintro e w4 ⟨rfl, g4⟩))
    go_ret
    exact ⟨rfl, bstep (ball g3 _) g4⟩
  · unfold fr at hD
    clear hs
    go_enter Try.func6, Try.ntmps6
    go_wp2_with (first | ((with_reducible refine (hD.to _).mono ?_); rintro e w3 ⟨rfl, g3⟩) | ((with_reducible refine (hE.to _).mono ?_); rintro e w5 ⟨rfl, g5⟩) | ((with_reducible refine (HL.out _).mono ?_); rintro e w4 ⟨rfl, g4⟩))
    go_ret
    exact ⟨rfl, bstep (bstep (ball g3 _) g5) g4⟩
end Go.Proofs.Ythpdfihmpoofaaa
