/-
  The walk of 'OctetBack': it returns true and leaves what was there alone. Conditions: the texts' lengths lie within the form's own reach, the numbers are of their kind.
-/
import Derived.Test.YteogichfophngaaLaw01b
namespace Go.Proofs.Yteogichfophngaa
open Go.RowKit

def Wides (s : ByteArray) (a : Int) (v c : Int) : Prop :=
  ∀ w : World, Calls Try.prog 17 #[.string s, .int .i64 a] w fun e w' => e = .returned (.tuple #[.int .u64 v, .int .i64 c]) ∧ Below w.heap.size w w'
theorem Wides.to {s : ByteArray} {a v c : Int} (h : Wides s a v c) (w : World) : Calls Try.prog 17 #[.string s, .int .i64 a] w fun e w' => e = .returned (.tuple #[.int .u64 v, .int .i64 c]) ∧ Below w.heap.size w w' := h w
def Eights (n : Int) (v : ByteArray) : Prop :=
  ∀ w : World, Calls Try.prog 19 #[.int .u64 n] w fun e w' => e = .returned (.string v) ∧ Below w.heap.size w w'
theorem Eights.to {n : Int} {v : ByteArray} (h : Eights n v) (w : World) : Calls Try.prog 19 #[.int .u64 n] w fun e w' => e = .returned (.string v) ∧ Below w.heap.size w w' := h w

theorem size_toList (s : ByteArray) : s.data.toList.length = s.size := by rw [Array.length_toList]; rfl
theorem data_add (a b : ByteArray) : (a ++ b).data.toList = a.data.toList ++ b.data.toList := by simp [ByteArray.data_append]
theorem size_add (a b : ByteArray) : (a ++ b).size = a.size + b.size := by rw [← size_toList, data_add, List.length_append, size_toList, size_toList]
theorem size_mk (l : List UInt8) : (⟨l.toArray⟩ : ByteArray).size = l.length := by simp [ByteArray.size]

/-- what stands behind a text's beginning -/
theorem mid (a : ByteArray) (v : List UInt8) (b : ByteArray) (k : Nat) (hk : v.length = k) : (((a ++ ⟨v.toArray⟩ ++ b).data.toList.drop a.size).take k) = v := by
  rw [data_add, data_add, List.append_assoc, List.drop_left' (by rw [size_toList]), List.take_left' (by simpa using hk)]

theorem mid' (a : ByteArray) (v : List UInt8) (k : Nat) (hk : v.length = k) : (((a ++ ⟨v.toArray⟩).data.toList.drop a.size).take k) = v := by
  rw [data_add, List.drop_left' (by rw [size_toList])]
  simp [← hk]

set_option maxHeartbeats 1000000 in
theorem octetBack_walk (a : ByteArray) (n m : Int) (b : ByteArray) (ha : a.size ≤ 140737488351232) (hb : b.size ≤ 140737488351232) (hn : n ≤ 9223372036854775807) (w : World) :
    Calls Try.prog 9 #[.agg #[.string a, .int .i64 n, .int .i64 m, .string b]] w fun e w' => e = .returned (.bool true) ∧ Below w.heap.size w w' := by
  have hput : Puts n m ⟨#[]⟩ 1 ∨ ∃ (x k : Nat) (v t : ByteArray), n = x ∧ m = k ∧ x ≤ 9223372036854775807 ∧ k ≤ 4 ∧ v.size = k ∧ t.size = 8 ∧ Puts x k v 0 ∧ Gets (a ++ v ++ b) a.size k x 0 ∧ Eights x t ∧ Wides (a ++ t) a.size x 0 ∧ Gets t 0 4 0 0 ∧ Gets t 4 4 x 0 := by
    have h0 : Puts n m (putV n m) (putE n m) := put_any n m hn
    refine put_cases n m (P := fun v c => Puts n m v c → _) ?_ ?_ ?_ h0
    · intro _ h; exact .inl h
    · intro x k _ _ _ _ _ h; exact .inl h
    · intro x k ex ek h1 h4 hx h
      subst ex ek
      have hx4 : x < 256 ^ 4 := Nat.lt_of_lt_of_le hx (Nat.pow_le_pow_right (by decide) h4)
      have hx8 : x < 256 ^ 8 := Nat.lt_of_lt_of_le hx (Nat.pow_le_pow_right (by decide) (by omega))
      have hl := Pl.be_length k x
      have hl8 := Pl.be_length 8 x
      have hsv : (⟨(Pl.be k x).toArray⟩ : ByteArray).size = k := by rw [size_mk, hl]
      have hst : (⟨(Pl.be 8 x).toArray⟩ : ByteArray).size = 8 := by rw [size_mk, hl8]
      have s1 := size_add a ⟨(Pl.be k x).toArray⟩
      have s2 := size_add (a ++ ⟨(Pl.be k x).toArray⟩) b
      have s3 := size_add a ⟨(Pl.be 8 x).toArray⟩
      refine .inr ⟨x, k, _, ⟨(Pl.be 8 x).toArray⟩, rfl, rfl, by omega, h4, hsv, hst, h, fun w => ?_, eight_any x, fun w => ?_, fun w => ?_, fun w => ?_⟩
      · have h := get_ok (a ++ ⟨(Pl.be k x).toArray⟩ ++ b) a.size k (by omega) h1 h4 (by omega) w
        rw [mid a _ b k hl, Pl.num_be_of_lt hx] at h
        exact h
      · have h := wide_ok (a ++ ⟨(Pl.be 8 x).toArray⟩) a.size (by omega) (by omega) w
        rw [mid' a _ 8 hl8, Pl.num_be_of_lt hx8] at h
        exact h
      · have h := get_ok ⟨(Pl.be 8 x).toArray⟩ 0 4 (by omega) (by decide) (by decide) (by omega) w
        have e : Pl.be 8 x = Pl.be 4 (x / 256 ^ 4) ++ Pl.be 4 x := Pl.be_add 4 4 x
        have e2 : ((Pl.be 8 x).drop 0).take 4 = Pl.be 4 0 := by
          rw [e, List.drop_zero, List.take_left' (Pl.be_length _ _), Nat.div_eq_of_lt hx4]
        rw [show (⟨(Pl.be 8 x).toArray⟩ : ByteArray).data.toList = Pl.be 8 x from rfl, e2] at h
        exact h
      · have h := get_ok ⟨(Pl.be 8 x).toArray⟩ 4 4 (by omega) (by decide) (by decide) (by omega) w
        have e : Pl.be 8 x = Pl.be 4 (x / 256 ^ 4) ++ Pl.be 4 x := Pl.be_add 4 4 x
        have e2 : ((Pl.be 8 x).drop 4).take 4 = Pl.be 4 x := by
          rw [e, List.drop_left' (Pl.be_length _ _), List.take_of_length_le (by rw [Pl.be_length]; omega)]
        rw [show (⟨(Pl.be 8 x).toArray⟩ : ByteArray).data.toList = Pl.be 8 x from rfl, e2, Pl.num_be_of_lt hx4] at h
        exact h
  rcases hput with hP | ⟨x, k, v, t, rfl, rfl, hx, hk, hv, ht, hP, hG, hE, hW, hH, hL⟩
  · go_enter Try.func9, Try.ntmps9
    go_wp2_with fail
    go_quiet (fail)
    go_wp2_with (first | ((with_reducible refine (hP.to _).mono ?_); rintro e w1 ⟨rfl, h1⟩) | ((with_reducible refine (live_any _).mono ?_); rintro e w4 ⟨rfl, h4⟩))
    go_ret
    exact ⟨rfl, bstep (bstep (bbox _ _ _) h1) h4⟩
  · go_enter Try.func9, Try.ntmps9
    go_wp2_with fail
    go_quiet (fail)
    go_wp2_with (first | ((with_reducible refine (hP.to _).mono ?_); rintro e w1 ⟨rfl, h1⟩) | ((with_reducible refine (hG.to _).mono ?_); rintro e w2 ⟨rfl, h2⟩) | ((with_reducible refine (hE.to _).mono ?_); rintro e w3 ⟨rfl, h3⟩) | ((with_reducible refine (hW.to _).mono ?_); rintro e w4 ⟨rfl, h4⟩) | ((with_reducible refine (hH.to _).mono ?_); rintro e w5 ⟨rfl, h5⟩) | ((with_reducible refine (hL.to _).mono ?_); rintro e w6 ⟨rfl, h6⟩) | ((with_reducible refine (live_any _).mono ?_); rintro e w7 ⟨rfl, h7⟩))
    go_ret
    exact ⟨rfl, bstep (bstep (bstep (bstep (bstep (bstep (bstep (bbox _ _ _) h1) h2) h3) h4) h5) h6) h7⟩
end Go.Proofs.Yteogichfophngaa
