/-
  The walk of 'BpduEncodes': it returns true and leaves what was there alone. Conditions: the numbers are of their kind.
-/
import Derived.Test.YthleobklagjlbaaREncB
import Derived.Test.YthleobklagjlbaaLaw06
import Derived.Test.YthleobklagjlbaaOpBp
namespace Go.Proofs.Ythleobklagjlbaa
open Go.RowKit

theorem renc_ok (r c b p a : Nat) (x y z : Bool) (hr : r < 18446744073709551616) (hb : b < 18446744073709551616) (hc : c < 4294967296) (hp : p < 65536) (ha : a < 256) (w : World) :
    Calls Try.prog 13 #[.agg #[.int .u64 r, .int .i64 c, .int .u64 b, .int .i64 p, .int .i64 a, .bool x, .bool y, .bool z]] w fun e w' => e = .returned (.tuple #[.string ⟨(Bp.enc r c b p a x y z).toArray⟩, .int .i64 0]) ∧ Below w.heap.size w w' := by
  have hf := Bp.flags_lt x y z
  have kF : ROfs (Bp.flags x y z : Nat) 1 ⟨(Pl.be 1 (Bp.flags x y z)).toArray⟩ := fun w => rof1 _ (by omega) w
  have kC : ROfs (c : Nat) 4 ⟨(Pl.be 4 c).toArray⟩ := fun w => rof4 c hc w
  have kP : ROfs (p : Nat) 2 ⟨(Pl.be 2 p).toArray⟩ := fun w => rof2 p hp w
  have kA : ROfs (a : Nat) 1 ⟨(Pl.be 1 a).toArray⟩ := fun w => rof1 a ha w
  have kR : REights (r : Nat) ⟨(Pl.be 8 r).toArray⟩ := fun w => reight_any r hr w
  have kB : REights (b : Nat) ⟨(Pl.be 8 b).toArray⟩ := fun w => reight_any b hb w
  have z8 : ∀ k n, k ≤ 8 → (⟨(Pl.be k n).toArray⟩ : ByteArray).size ≤ 8 := fun k n h => by rw [size_mk, Pl.be_length]; exact h
  have hm := fun w => rmay_yes r b c p a x y z (by omega) (by omega) (by omega) (by omega) (by omega) (by omega) w
  have hres : (⟨#[66, 66, 3, 0, 0, 2, 2]⟩ : ByteArray) ++ ⟨(Pl.be 1 (Bp.flags x y z)).toArray⟩ ++ ⟨(Pl.be 8 r).toArray⟩ ++ ⟨(Pl.be 4 c).toArray⟩ ++ ⟨(Pl.be 8 b).toArray⟩ ++ ⟨(Pl.be 2 p).toArray⟩ ++ ⟨(Pl.be 1 a).toArray⟩ ++ ⟨#[0, 20, 0, 2, 0, 15, 0, 0]⟩ = ⟨(Bp.enc r c b p a x y z).toArray⟩ := by
    have e : Bp.enc r c b p a x y z = [66, 66, 3, 0, 0, 2, 2] ++ Pl.be 1 (Bp.flags x y z) ++ Pl.be 8 r ++ Pl.be 4 c ++ Pl.be 8 b ++ Pl.be 2 p ++ Pl.be 1 a ++ [0, 20, 0, 2, 0, 15, 0, 0] := rfl
    rw [e, ← ba_append, ← ba_append, ← ba_append, ← ba_append, ← ba_append, ← ba_append, ← ba_append]
  exact renc_in r c b p a x y z _ _ _ _ _ _ _ hm kF kC kP kA kR kB (z8 _ _ (by decide)) (z8 _ _ (by decide)) (z8 _ _ (by decide)) (z8 _ _ (by decide)) (z8 _ _ (by decide)) (z8 _ _ (by decide)) hres w

set_option maxRecDepth 100000 in
set_option maxHeartbeats 1000000 in
theorem encodes_in (s : ByteArray) (r c b p a : Int) (x y z : Bool) (e0 : Int) (hE : Encs r c b p a x y z s e0)
    (hR : ∀ w, Calls Try.prog 13 #[.agg #[.int .u64 r, .int .i64 c, .int .u64 b, .int .i64 p, .int .i64 a, .bool x, .bool y, .bool z]] w fun e w' => e = .returned (.tuple #[.string s, .int .i64 e0]) ∧ Below w.heap.size w w') (w : World) :
    Calls Try.prog 4 #[.agg #[.int .u64 r, .int .i64 c, .int .u64 b, .int .i64 p, .int .i64 a, .bool x, .bool y, .bool z]] w fun e w' => e = .returned (.bool true) ∧ Below w.heap.size w w' := by
  have hl := live06
  have HL := Lib.hid hl
  have HR := Lib.hid hR
  clear hl hR
  go_enter Try.func4, Try.ntmps4
  go_wp2_with (first | ((with_reducible refine (hE.to _).mono ?_); rintro e w2 ⟨rfl, g2⟩; obtain ⟨z2, d0, d1, d2, d3, d4, d5, d6, d7⟩ := box8 g2) | ((with_reducible refine (HR.out _).mono ?_); rintro e w3 ⟨rfl, g3⟩) | ((with_reducible refine (HL.out _).mono ?_); rintro e w4 ⟨rfl, g4⟩))
  go_ret
  exact ⟨rfl, bstep (bstep (bstep (bbox1 _ _) g2) g3) g4⟩

theorem encodes_walk (r c b p a : Int) (x y z : Bool) (hr0 : 0 ≤ r) (hr : r ≤ 18446744073709551615) (hc : c ≤ 9223372036854775807) (hb0 : 0 ≤ b) (hb : b ≤ 18446744073709551615) (hp : p ≤ 9223372036854775807) (ha : a ≤ 9223372036854775807) (w : World) :
    Calls Try.prog 4 #[.agg #[.int .u64 r, .int .i64 c, .int .u64 b, .int .i64 p, .int .i64 a, .bool x, .bool y, .bool z]] w fun e w' => e = .returned (.bool true) ∧ Below w.heap.size w w' := by
  by_cases h : c < 0 ∨ 4294967296 ≤ c ∨ p < 0 ∨ 65536 ≤ p ∨ a < 0 ∨ 256 ≤ a
  · exact encodes_in _ r c b p a x y z 1 (encs_arg x y z hc hp ha h) (fun w => renc_arg r b c p a x y z (by omega) w) w
  · obtain ⟨r, rfl⟩ := Int.eq_ofNat_of_zero_le hr0
    obtain ⟨b, rfl⟩ := Int.eq_ofNat_of_zero_le hb0
    obtain ⟨c, rfl⟩ := Int.eq_ofNat_of_zero_le (show 0 ≤ c by omega)
    obtain ⟨p, rfl⟩ := Int.eq_ofNat_of_zero_le (show 0 ≤ p by omega)
    obtain ⟨a, rfl⟩ := Int.eq_ofNat_of_zero_le (show 0 ≤ a by omega)
    exact encodes_in _ r c b p a x y z 0 (encs_ok x y z (by omega) (by omega) (by omega)) (fun w => renc_ok r c b p a x y z (by omega) (by omega) (by omega) (by omega) (by omega) w) w
end Go.Proofs.Ythleobklagjlbaa
