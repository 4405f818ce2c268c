/-
  The walks of 'BpduForth' and 'BpduBack': each returns true and leaves what was there alone. Conditions: the text's length lies within the form's own reach, the numbers are of their kind.
-/
import Derived.Test.YthleobklagjlbaaLaw06
import Derived.Test.YthleobklagjlbaaOpBp
namespace Go.Proofs.Ythleobklagjlbaa
open Go.RowKit

theorem enc_good_reads {r c b p a : Nat} {x y z : Bool} (hr : r < 18446744073709551616) (hc : c < 4294967296) (hb : b < 18446744073709551616) (hp : p < 65536) (ha : a < 256) :
    Bp.Reads (⟨(Bp.enc r c b p a x y z).toArray⟩ : ByteArray).data.toList r c b p a x y z := by
  have h := Bp.reads_back r c b p a x y z hr hc hb hp ha []
  rw [List.append_nil] at h
  exact h
theorem enc_size (r c b p a : Nat) (x y z : Bool) : (⟨(Bp.enc r c b p a x y z).toArray⟩ : ByteArray).size = 39 := by rw [size_mk, Bp.enc_length]

set_option maxRecDepth 100000 in
set_option maxHeartbeats 1000000 in
theorem forth_not (s : ByteArray) (e0 : Int) (he : (e0 != 0) = true) (hD : Decs s 0 0 0 0 0 false false false e0) (w : World) :
    Calls Try.prog 6 #[.string s] w fun e w' => e = .returned (.bool true) ∧ Below w.heap.size w w' := by
  have hl := live06
  have HL := Lib.hid hl
  clear hl
  go_enter Try.func6, Try.ntmps6
  go_wp2_with (first | ((with_reducible refine (hD.to _).mono ?_); rintro e w2 ⟨rfl, g2⟩) | ((with_reducible refine (HL.out _).mono ?_); rintro e w4 ⟨rfl, g4⟩))
  go_ret
  exact ⟨rfl, bstep (ball g2 _) g4⟩

set_option maxRecDepth 100000 in
set_option maxHeartbeats 1000000 in
theorem forth_in (s t : ByteArray) (r c b p a : Int) (x y z : Bool) (hD : Decs s r c b p a x y z 0) (hE : Encs r c b p a x y z t 0) (hF : Decs t r c b p a x y z 0) (ht : t.size = 39) (w : World) :
    Calls Try.prog 6 #[.string s] w fun e w' => e = .returned (.bool true) ∧ Below w.heap.size w w' := by
  have hl := live06
  have HL := Lib.hid hl
  clear hl
  go_enter Try.func6, Try.ntmps6
  go_wp2_with (first | ((with_reducible refine (hD.to _).mono ?_); rintro e w2 ⟨rfl, g2⟩) | ((with_reducible refine (hE.to _).mono ?_); rintro e w3 ⟨rfl, g3⟩; obtain ⟨z3, c0, c1, c2, c3, c4, c5, c6, c7⟩ := box8 g3) | ((with_reducible refine (hF.to _).mono ?_); rintro e w5 ⟨rfl, g5⟩; obtain ⟨z5, d0, d1, d2, d3, d4, d5, d6, d7⟩ := box8_on g5 z3 c0 c1 c2 c3 c4 c5 c6 c7) | ((with_reducible refine (HL.out _).mono ?_); rintro e w4 ⟨rfl, g4⟩))
  go_ret
  exact ⟨rfl, bstep (ball (bstep (bstep (ball g2 _) g3) g5) _) g4⟩

theorem forth_walk (s : ByteArray) (hs : s.size ≤ 140737488351232) (w : World) :
    Calls Try.prog 6 #[.string s] w fun e w' => e = .returned (.bool true) ∧ Below w.heap.size w w' := by
  by_cases h : s.size < 39
  · exact forth_not s 2 rfl (decs_cut s h) w
  · rcases hg : Bp.good s.data.toList with _ | _
    · exact forth_not s 3 rfl (decs_form s (by omega) (by omega) hg) w
    · obtain ⟨k1, k2, k3, k4, k5⟩ := Bp.kinds s.data.toList
      exact forth_in s _ _ _ _ _ _ _ _ _ (decs_ok s (by omega) (by omega) (reads_self _ hg)) (encs_ok _ _ _ k2 k4 k5)
        (decs_ok _ (by rw [enc_size]; omega) (by rw [enc_size]; omega) (enc_good_reads k1 k2 k3 k4 k5)) (enc_size _ _ _ _ _ _ _ _) w

set_option maxRecDepth 100000 in
set_option maxHeartbeats 1000000 in
theorem back_not (v : ByteArray) (r c b p a : Int) (x y z : Bool) (hE : Encs r c b p a x y z ⟨#[]⟩ 1) (w : World) :
    Calls Try.prog 5 #[.agg #[.int .u64 r, .int .i64 c, .int .u64 b, .int .i64 p, .int .i64 a, .bool x, .bool y, .bool z], .string v] w fun e w' => e = .returned (.bool true) ∧ Below w.heap.size w w' := by
  have hl := live06
  have HL := Lib.hid hl
  clear hl
  go_enter Try.func5, Try.ntmps5
  go_wp2_with (first | ((with_reducible refine (hE.to _).mono ?_); rintro e w3 ⟨rfl, g3⟩) | ((with_reducible refine (HL.out _).mono ?_); rintro e w4 ⟨rfl, g4⟩))
  go_ret
  exact ⟨rfl, bstep (bstep (bbox1 _ _) g3) g4⟩

set_option maxRecDepth 100000 in
set_option maxHeartbeats 1000000 in
theorem back_in (t v u : ByteArray) (r c b p a : Int) (x y z : Bool) (hE : Encs r c b p a x y z t 0) (hu : t ++ v = u) (ht : t.size = 39) (hv : v.size ≤ 140737488351232) (hF : Decs u r c b p a x y z 0) (w : World) :
    Calls Try.prog 5 #[.agg #[.int .u64 r, .int .i64 c, .int .u64 b, .int .i64 p, .int .i64 a, .bool x, .bool y, .bool z], .string v] w fun e w' => e = .returned (.bool true) ∧ Below w.heap.size w w' := by
  have hl := live06
  have HL := Lib.hid hl
  have j1 := join2 t v (by omega)
  rw [hu] at j1
  clear hl hu
  go_enter Try.func5, Try.ntmps5
  go_wp2_with (first | ((with_reducible refine (hE.to _).mono ?_); rintro e w3 ⟨rfl, g3⟩; obtain ⟨z3, c0, c1, c2, c3, c4, c5, c6, c7⟩ := box8 g3) | ((with_reducible refine (hF.to _).mono ?_); rintro e w5 ⟨rfl, g5⟩; obtain ⟨z5, d0, d1, d2, d3, d4, d5, d6, d7⟩ := box8_on g5 z3 c0 c1 c2 c3 c4 c5 c6 c7) | ((with_reducible refine (HL.out _).mono ?_); rintro e w4 ⟨rfl, g4⟩))
  go_ret
  exact ⟨rfl, bstep (ball (bstep (bstep (bbox1 _ _) g3) g5) _) g4⟩

theorem back_walk (r c b p a : Int) (x y z : Bool) (v : ByteArray) (hv : v.size ≤ 140737488351232) (hr0 : 0 ≤ r) (hr : r ≤ 18446744073709551615) (hc : c ≤ 9223372036854775807) (hb0 : 0 ≤ b) (hb : b ≤ 18446744073709551615) (hp : p ≤ 9223372036854775807) (ha : a ≤ 9223372036854775807) (w : World) :
    Calls Try.prog 5 #[.agg #[.int .u64 r, .int .i64 c, .int .u64 b, .int .i64 p, .int .i64 a, .bool x, .bool y, .bool z], .string v] w fun e w' => e = .returned (.bool true) ∧ Below w.heap.size w w' := by
  by_cases h : c < 0 ∨ 4294967296 ≤ c ∨ p < 0 ∨ 65536 ≤ p ∨ a < 0 ∨ 256 ≤ a
  · exact back_not v r c b p a x y z (encs_arg x y z hc hp ha h) w
  · obtain ⟨r, rfl⟩ := Int.eq_ofNat_of_zero_le hr0
    obtain ⟨b, rfl⟩ := Int.eq_ofNat_of_zero_le hb0
    obtain ⟨c, rfl⟩ := Int.eq_ofNat_of_zero_le (show 0 ≤ c by omega)
    obtain ⟨p, rfl⟩ := Int.eq_ofNat_of_zero_le (show 0 ≤ p by omega)
    obtain ⟨a, rfl⟩ := Int.eq_ofNat_of_zero_le (show 0 ≤ a by omega)
    have hd : ((⟨(Bp.enc r c b p a x y z).toArray⟩ : ByteArray) ++ v).data.toList = Bp.enc r c b p a x y z ++ v.data.toList := by simp [ByteArray.data_append]
    have sz : ((⟨(Bp.enc r c b p a x y z).toArray⟩ : ByteArray) ++ v).size = 39 + v.size := by rw [size_add, enc_size]
    refine back_in _ v _ r c b p a x y z (encs_ok x y z (by omega) (by omega) (by omega)) rfl (enc_size _ _ _ _ _ _ _ _) hv (decs_ok _ (by rw [sz]; omega) ?_ ?_) w
    · rw [sz]; omega
    · rw [hd]
      exact Bp.reads_back r c b p a x y z (by omega) (by omega) (by omega) (by omega) (by omega) _
end Go.Proofs.Ythleobklagjlbaa
