/-
  code.Dec8 and Enc8: the number of a code, and that a number has a code. Conditions: those of each.
-/
import Derived.Deep.QuietTactic
import Derived.BigQuiet
import Derived.Test.YticdmepplfgdiaaGreatDoorQ03
import Derived.Test.YticdmepplfgdiaaGreatDoorQ02
set_option linter.unusedVariables false
set_option linter.unusedSimpArgs false
namespace Go.Proofs.YticdmepplfgdiaaGreatDoor
open Go.RowKit
theorem half_4 (w : World) : Calls Tryz.prog 306 #[.int .i64 4] w fun e w' => e = .returned (.int .i64 128) ∧ w' = w := by
  go_enter Tryz.func306, Tryz.ntmps306
  go_wp2
  go_ret
  exact ⟨rfl, rfl⟩
theorem small_4 (w : World) : Calls Tryz.prog 339 #[.int .i64 4] w fun e w' => e = .returned (.int .i64 16) ∧ w' = w := by
  go_enter Tryz.func339, Tryz.ntmps339
  go_wp2
  go_ret
  exact ⟨rfl, rfl⟩
/-- the number of a code -/
def D8 (c : Nat) : Nat := if c < 128 then c else (16 + c % 16) * 2 ^ (c / 16 % 8 + 3)
set_option maxRecDepth 100000 in
theorem dec_low (c : Nat) (h : (c : Int) < 128) (w : World) : Calls Tryz.prog 307 #[.int .i64 4, .int .i64 c] w fun e w' => e = .returned (.int .i64 c) ∧ Below w.heap.size w w' := by
  go_enter Tryz.func307, Tryz.ntmps307
  go_wp2_with (go_at_call 306; (with_reducible refine (half_4 _).mono ?_); rintro e w' ⟨rfl, rfl⟩)
  go_ret
  exact ⟨rfl, Below.refl _ _⟩
set_option maxRecDepth 100000 in
set_option maxHeartbeats 2000000 in
theorem dec_0 (c r : Nat) (h : 128 ≤ (c : Int)) (h1 : (c : Int) / 16 = 8) (h2 : bits .and .i64 (c : Int) 15 = (r : Int)) (h3 : bits .or .i64 (r : Int) 16 = (16 + r : Int)) (h4 : (r : Int) ≤ 15) (w : World) : Calls Tryz.prog 307 #[.int .i64 4, .int .i64 c] w fun e w' => e = .returned (.int .i64 ((16 + r) * 8)) ∧ Below w.heap.size w w' := by
  have a1 : bits .and .i64 8 7 = 0 := by decide
  go_enter Tryz.func307, Tryz.ntmps307
  go_upto_region 3 with (go_at_call 306; (with_reducible refine (half_4 _).mono ?_); rintro e w' ⟨rfl, rfl⟩)
  go_quiet ((go_at_call 339; exact Calls.quiet_of_same (small_4 _)))
  go_wp2
  go_ret
  exact ⟨rfl, bdrew (Below.refl _ _) _⟩
set_option maxRecDepth 100000 in
set_option maxHeartbeats 2000000 in
theorem dec_1 (c r : Nat) (h : 128 ≤ (c : Int)) (h1 : (c : Int) / 16 = 9) (h2 : bits .and .i64 (c : Int) 15 = (r : Int)) (h3 : bits .or .i64 (r : Int) 16 = (16 + r : Int)) (h4 : (r : Int) ≤ 15) (w : World) : Calls Tryz.prog 307 #[.int .i64 4, .int .i64 c] w fun e w' => e = .returned (.int .i64 ((16 + r) * 16)) ∧ Below w.heap.size w w' := by
  have a1 : bits .and .i64 9 7 = 1 := by decide
  go_enter Tryz.func307, Tryz.ntmps307
  go_upto_region 3 with (go_at_call 306; (with_reducible refine (half_4 _).mono ?_); rintro e w' ⟨rfl, rfl⟩)
  go_quiet ((go_at_call 339; exact Calls.quiet_of_same (small_4 _)))
  go_wp2
  go_ret
  exact ⟨rfl, bdrew (Below.refl _ _) _⟩
set_option maxRecDepth 100000 in
set_option maxHeartbeats 2000000 in
theorem dec_2 (c r : Nat) (h : 128 ≤ (c : Int)) (h1 : (c : Int) / 16 = 10) (h2 : bits .and .i64 (c : Int) 15 = (r : Int)) (h3 : bits .or .i64 (r : Int) 16 = (16 + r : Int)) (h4 : (r : Int) ≤ 15) (w : World) : Calls Tryz.prog 307 #[.int .i64 4, .int .i64 c] w fun e w' => e = .returned (.int .i64 ((16 + r) * 32)) ∧ Below w.heap.size w w' := by
  have a1 : bits .and .i64 10 7 = 2 := by decide
  go_enter Tryz.func307, Tryz.ntmps307
  go_upto_region 3 with (go_at_call 306; (with_reducible refine (half_4 _).mono ?_); rintro e w' ⟨rfl, rfl⟩)
  go_quiet ((go_at_call 339; exact Calls.quiet_of_same (small_4 _)))
  go_wp2
  go_ret
  exact ⟨rfl, bdrew (Below.refl _ _) _⟩
set_option maxRecDepth 100000 in
set_option maxHeartbeats 2000000 in
theorem dec_3 (c r : Nat) (h : 128 ≤ (c : Int)) (h1 : (c : Int) / 16 = 11) (h2 : bits .and .i64 (c : Int) 15 = (r : Int)) (h3 : bits .or .i64 (r : Int) 16 = (16 + r : Int)) (h4 : (r : Int) ≤ 15) (w : World) : Calls Tryz.prog 307 #[.int .i64 4, .int .i64 c] w fun e w' => e = .returned (.int .i64 ((16 + r) * 64)) ∧ Below w.heap.size w w' := by
  have a1 : bits .and .i64 11 7 = 3 := by decide
  go_enter Tryz.func307, Tryz.ntmps307
  go_upto_region 3 with (go_at_call 306; (with_reducible refine (half_4 _).mono ?_); rintro e w' ⟨rfl, rfl⟩)
  go_quiet ((go_at_call 339; exact Calls.quiet_of_same (small_4 _)))
  go_wp2
  go_ret
  exact ⟨rfl, bdrew (Below.refl _ _) _⟩
set_option maxRecDepth 100000 in
set_option maxHeartbeats 2000000 in
theorem dec_4 (c r : Nat) (h : 128 ≤ (c : Int)) (h1 : (c : Int) / 16 = 12) (h2 : bits .and .i64 (c : Int) 15 = (r : Int)) (h3 : bits .or .i64 (r : Int) 16 = (16 + r : Int)) (h4 : (r : Int) ≤ 15) (w : World) : Calls Tryz.prog 307 #[.int .i64 4, .int .i64 c] w fun e w' => e = .returned (.int .i64 ((16 + r) * 128)) ∧ Below w.heap.size w w' := by
  have a1 : bits .and .i64 12 7 = 4 := by decide
  go_enter Tryz.func307, Tryz.ntmps307
  go_upto_region 3 with (go_at_call 306; (with_reducible refine (half_4 _).mono ?_); rintro e w' ⟨rfl, rfl⟩)
  go_quiet ((go_at_call 339; exact Calls.quiet_of_same (small_4 _)))
  go_wp2
  go_ret
  exact ⟨rfl, bdrew (Below.refl _ _) _⟩
set_option maxRecDepth 100000 in
set_option maxHeartbeats 2000000 in
theorem dec_5 (c r : Nat) (h : 128 ≤ (c : Int)) (h1 : (c : Int) / 16 = 13) (h2 : bits .and .i64 (c : Int) 15 = (r : Int)) (h3 : bits .or .i64 (r : Int) 16 = (16 + r : Int)) (h4 : (r : Int) ≤ 15) (w : World) : Calls Tryz.prog 307 #[.int .i64 4, .int .i64 c] w fun e w' => e = .returned (.int .i64 ((16 + r) * 256)) ∧ Below w.heap.size w w' := by
  have a1 : bits .and .i64 13 7 = 5 := by decide
  go_enter Tryz.func307, Tryz.ntmps307
  go_upto_region 3 with (go_at_call 306; (with_reducible refine (half_4 _).mono ?_); rintro e w' ⟨rfl, rfl⟩)
  go_quiet ((go_at_call 339; exact Calls.quiet_of_same (small_4 _)))
  go_wp2
  go_ret
  exact ⟨rfl, bdrew (Below.refl _ _) _⟩
set_option maxRecDepth 100000 in
set_option maxHeartbeats 2000000 in
theorem dec_6 (c r : Nat) (h : 128 ≤ (c : Int)) (h1 : (c : Int) / 16 = 14) (h2 : bits .and .i64 (c : Int) 15 = (r : Int)) (h3 : bits .or .i64 (r : Int) 16 = (16 + r : Int)) (h4 : (r : Int) ≤ 15) (w : World) : Calls Tryz.prog 307 #[.int .i64 4, .int .i64 c] w fun e w' => e = .returned (.int .i64 ((16 + r) * 512)) ∧ Below w.heap.size w w' := by
  have a1 : bits .and .i64 14 7 = 6 := by decide
  go_enter Tryz.func307, Tryz.ntmps307
  go_upto_region 3 with (go_at_call 306; (with_reducible refine (half_4 _).mono ?_); rintro e w' ⟨rfl, rfl⟩)
  go_quiet ((go_at_call 339; exact Calls.quiet_of_same (small_4 _)))
  go_wp2
  go_ret
  exact ⟨rfl, bdrew (Below.refl _ _) _⟩
set_option maxRecDepth 100000 in
set_option maxHeartbeats 2000000 in
theorem dec_7 (c r : Nat) (h : 128 ≤ (c : Int)) (h1 : (c : Int) / 16 = 15) (h2 : bits .and .i64 (c : Int) 15 = (r : Int)) (h3 : bits .or .i64 (r : Int) 16 = (16 + r : Int)) (h4 : (r : Int) ≤ 15) (w : World) : Calls Tryz.prog 307 #[.int .i64 4, .int .i64 c] w fun e w' => e = .returned (.int .i64 ((16 + r) * 1024)) ∧ Below w.heap.size w w' := by
  have a1 : bits .and .i64 15 7 = 7 := by decide
  go_enter Tryz.func307, Tryz.ntmps307
  go_upto_region 3 with (go_at_call 306; (with_reducible refine (half_4 _).mono ?_); rintro e w' ⟨rfl, rfl⟩)
  go_quiet ((go_at_call 339; exact Calls.quiet_of_same (small_4 _)))
  go_wp2
  go_ret
  exact ⟨rfl, bdrew (Below.refl _ _) _⟩
theorem or_16 (r : Nat) (h : r ≤ 15) : bits .or .i64 (r : Int) 16 = (16 + r : Int) := by
  rw [show (16 : Int) = ((16 : Nat) : Int) from rfl, i64_or_nat _ _ (by omega) (by decide)]
  have : ∀ k : Fin 16, k.val ||| 16 = 16 + k.val := by decide
  have e := this ⟨r, by omega⟩
  simp only at e
  rw [e]
  omega
theorem and_15 (c : Nat) (h : c < 9223372036854775808) : bits .and .i64 (c : Int) 15 = ((c % 16 : Nat) : Int) := by
  rw [show (15 : Int) = ((15 : Nat) : Int) from rfl, i64_and_nat _ _ h (by decide)]
  congr 1
  exact Nat.and_two_pow_sub_one_eq_mod _ 4
theorem dec_8 (c : Nat) (hc : c ≤ 255) (w : World) : Calls Tryz.prog 307 #[.int .i64 4, .int .i64 c] w fun e w' => e = .returned (.int .i64 (D8 c)) ∧ Below w.heap.size w w' := by
  by_cases h : c < 128
  · have e : D8 c = c := if_pos h
    rw [e]
    exact dec_low c (by omega) w
  · have e : D8 c = (16 + c % 16) * 2 ^ (c / 16 % 8 + 3) := if_neg h
    have h2 := and_15 c (by omega)
    have h3 := or_16 (c % 16) (by omega)
    have hq : c / 16 = 8 ∨ c / 16 = 9 ∨ c / 16 = 10 ∨ c / 16 = 11 ∨ c / 16 = 12 ∨ c / 16 = 13 ∨ c / 16 = 14 ∨ c / 16 = 15 := by omega
    have hr : ((c % 16 : Nat) : Int) ≤ 15 := by omega
    rw [e]
    rcases hq with q | q | q | q | q | q | q | q
    · have k := dec_0 c (c % 16) (by omega) (by omega) h2 h3 hr w
      refine k.mono ?_
      rintro e w' ⟨rfl, g⟩
      refine ⟨?_, g⟩
      rw [q]
      congr 2
    · have k := dec_1 c (c % 16) (by omega) (by omega) h2 h3 hr w
      refine k.mono ?_
      rintro e w' ⟨rfl, g⟩
      refine ⟨?_, g⟩
      rw [q]
      congr 2
    · have k := dec_2 c (c % 16) (by omega) (by omega) h2 h3 hr w
      refine k.mono ?_
      rintro e w' ⟨rfl, g⟩
      refine ⟨?_, g⟩
      rw [q]
      congr 2
    · have k := dec_3 c (c % 16) (by omega) (by omega) h2 h3 hr w
      refine k.mono ?_
      rintro e w' ⟨rfl, g⟩
      refine ⟨?_, g⟩
      rw [q]
      congr 2
    · have k := dec_4 c (c % 16) (by omega) (by omega) h2 h3 hr w
      refine k.mono ?_
      rintro e w' ⟨rfl, g⟩
      refine ⟨?_, g⟩
      rw [q]
      congr 2
    · have k := dec_5 c (c % 16) (by omega) (by omega) h2 h3 hr w
      refine k.mono ?_
      rintro e w' ⟨rfl, g⟩
      refine ⟨?_, g⟩
      rw [q]
      congr 2
    · have k := dec_6 c (c % 16) (by omega) (by omega) h2 h3 hr w
      refine k.mono ?_
      rintro e w' ⟨rfl, g⟩
      refine ⟨?_, g⟩
      rw [q]
      congr 2
    · have k := dec_7 c (c % 16) (by omega) (by omega) h2 h3 hr w
      refine k.mono ?_
      rintro e w' ⟨rfl, g⟩
      refine ⟨?_, g⟩
      rw [q]
      congr 2
set_option maxRecDepth 100000 in
theorem dec8_is (c : Nat) (hc : (c : Int) ≤ 255) (w : World) : Calls Tryz.prog 209 #[.int .i64 c] w fun e w' => e = .returned (.tuple #[.int .i64 (D8 c), .int .i64 0]) ∧ Below w.heap.size w w' := by
  have HD := Lib.hid (fun W => dec_8 c (by omega) W)
  have h1 : (0 : Int) ≤ (c : Int) := by omega
  have h2 : (c : Int) < 256 := by omega
  have HDc := Lib.hid (fun (W : World) => (show Calls Tryz.prog 262 #[.int .i64 4, .int .i64 c] W fun e w' => e = .returned (.tuple #[.int .i64 (D8 c), .int .i64 0]) ∧ Below W.heap.size W w' by
    go_enter Tryz.func262, Tryz.ntmps262
    go_wp2_with (first | (go_at_call 306; (with_reducible refine (half_4 _).mono ?_); rintro e w' ⟨rfl, rfl⟩) | (go_at_call 307; (with_reducible refine (HD.out _).mono ?_); rintro e w1 ⟨rfl, g1⟩))
    go_ret2
    exact ⟨rfl, g1⟩))
  go_enter Tryz.func209, Tryz.ntmps209
  go_wp2_with (go_at_call 262; (with_reducible refine (HDc.out _).mono ?_); rintro e w1 ⟨rfl, g1⟩)
  go_ret2
  exact ⟨rfl, g1⟩
set_option maxRecDepth 100000 in
theorem enc_low (n : Nat) (h : (n : Int) < 128) (w : World) : Calls Tryz.prog 305 #[.int .i64 4, .int .i64 n] w fun e w' => e = .returned (.int .i64 n) ∧ Below w.heap.size w w' := by
  go_enter Tryz.func305, Tryz.ntmps305
  go_wp2_with (go_at_call 306; (with_reducible refine (half_4 _).mono ?_); rintro e w' ⟨rfl, rfl⟩)
  go_ret
  exact ⟨rfl, Below.refl _ _⟩
theorem len_is (n : Nat) (hn : n ≤ 9223372036854775807) (L : Int) (hL : (Lib.bitLen n : Int) = L) (w : World) : Calls Tryz.prog 159 #[.int .u64 n] w fun e w' => e = .returned (.int .i64 L) ∧ w' = w := by
  refine (bits_Len (n : Int) w (by omega) (by omega)).mono ?_
  rintro e w' ⟨rfl, rfl⟩
  rw [Int.toNat_natCast, hL]
  exact ⟨rfl, rfl⟩
set_option maxRecDepth 100000 in
set_option maxHeartbeats 2000000 in
theorem enc_over (n : Nat) (L : Int) (h : 128 ≤ (n : Int)) (hn : (n : Int) ≤ 9223372036854775807) (hL : (Lib.bitLen n : Int) = L) (h1 : 16 ≤ L) (h2 : L ≤ 64) (w : World) : Calls Tryz.prog 305 #[.int .i64 4, .int .i64 n] w fun e w' => e = .returned (.int .i64 255) ∧ Below w.heap.size w w' := by
  have HB := Lib.hid (fun W => len_is n (by omega) L hL W)
  clear hL
  go_enter Tryz.func305, Tryz.ntmps305
  go_wp2_with (first | (go_at_call 306; (with_reducible refine (half_4 _).mono ?_); rintro e w' ⟨rfl, rfl⟩) | (go_at_call 159; (with_reducible refine (HB.out _).mono ?_); rintro e w' ⟨rfl, rfl⟩))
  go_ret
  exact ⟨rfl, Below.refl _ _⟩
set_option maxRecDepth 100000 in
set_option maxHeartbeats 2000000 in
theorem enc_0 (n r : Nat) (h : 128 ≤ (n : Int)) (hn : (n : Int) ≤ 9223372036854775807) (hL : (Lib.bitLen n : Int) = 8) (h2 : bits .and .i64 ((n : Int) / 8) 15 = (r : Int)) (h3 : bits .or .i64 128 (r : Int) = (128 + r : Int)) (w : World) : Calls Tryz.prog 305 #[.int .i64 4, .int .i64 n] w fun e w' => e = .returned (.int .i64 (128 + r)) ∧ Below w.heap.size w w' := by
  have HB := Lib.hid (fun W => len_is n (by omega) 8 hL W)
  have a1 : bits .or .i64 128 0 = 128 := by decide
  clear hL
  go_enter Tryz.func305, Tryz.ntmps305
  go_upto_region 6 with (first | (go_at_call 306; (with_reducible refine (half_4 _).mono ?_); rintro e w' ⟨rfl, rfl⟩) | (go_at_call 159; (with_reducible refine (HB.out _).mono ?_); rintro e w' ⟨rfl, rfl⟩))
  go_quiet (first | (go_at_call 339; exact Calls.quiet_of_same (small_4 _)) | (go_at_call 306; exact Calls.quiet_of_same (half_4 _)))
  go_wp2
  go_ret
  exact ⟨rfl, bdrew (Below.refl _ _) _⟩
set_option maxRecDepth 100000 in
set_option maxHeartbeats 2000000 in
theorem enc_1 (n r : Nat) (h : 128 ≤ (n : Int)) (hn : (n : Int) ≤ 9223372036854775807) (hL : (Lib.bitLen n : Int) = 9) (h2 : bits .and .i64 ((n : Int) / 16) 15 = (r : Int)) (h3 : bits .or .i64 144 (r : Int) = (144 + r : Int)) (w : World) : Calls Tryz.prog 305 #[.int .i64 4, .int .i64 n] w fun e w' => e = .returned (.int .i64 (144 + r)) ∧ Below w.heap.size w w' := by
  have HB := Lib.hid (fun W => len_is n (by omega) 9 hL W)
  have a1 : bits .or .i64 128 16 = 144 := by decide
  clear hL
  go_enter Tryz.func305, Tryz.ntmps305
  go_upto_region 6 with (first | (go_at_call 306; (with_reducible refine (half_4 _).mono ?_); rintro e w' ⟨rfl, rfl⟩) | (go_at_call 159; (with_reducible refine (HB.out _).mono ?_); rintro e w' ⟨rfl, rfl⟩))
  go_quiet (first | (go_at_call 339; exact Calls.quiet_of_same (small_4 _)) | (go_at_call 306; exact Calls.quiet_of_same (half_4 _)))
  go_wp2
  go_ret
  exact ⟨rfl, bdrew (Below.refl _ _) _⟩
set_option maxRecDepth 100000 in
set_option maxHeartbeats 2000000 in
theorem enc_2 (n r : Nat) (h : 128 ≤ (n : Int)) (hn : (n : Int) ≤ 9223372036854775807) (hL : (Lib.bitLen n : Int) = 10) (h2 : bits .and .i64 ((n : Int) / 32) 15 = (r : Int)) (h3 : bits .or .i64 160 (r : Int) = (160 + r : Int)) (w : World) : Calls Tryz.prog 305 #[.int .i64 4, .int .i64 n] w fun e w' => e = .returned (.int .i64 (160 + r)) ∧ Below w.heap.size w w' := by
  have HB := Lib.hid (fun W => len_is n (by omega) 10 hL W)
  have a1 : bits .or .i64 128 32 = 160 := by decide
  clear hL
  go_enter Tryz.func305, Tryz.ntmps305
  go_upto_region 6 with (first | (go_at_call 306; (with_reducible refine (half_4 _).mono ?_); rintro e w' ⟨rfl, rfl⟩) | (go_at_call 159; (with_reducible refine (HB.out _).mono ?_); rintro e w' ⟨rfl, rfl⟩))
  go_quiet (first | (go_at_call 339; exact Calls.quiet_of_same (small_4 _)) | (go_at_call 306; exact Calls.quiet_of_same (half_4 _)))
  go_wp2
  go_ret
  exact ⟨rfl, bdrew (Below.refl _ _) _⟩
set_option maxRecDepth 100000 in
set_option maxHeartbeats 2000000 in
theorem enc_3 (n r : Nat) (h : 128 ≤ (n : Int)) (hn : (n : Int) ≤ 9223372036854775807) (hL : (Lib.bitLen n : Int) = 11) (h2 : bits .and .i64 ((n : Int) / 64) 15 = (r : Int)) (h3 : bits .or .i64 176 (r : Int) = (176 + r : Int)) (w : World) : Calls Tryz.prog 305 #[.int .i64 4, .int .i64 n] w fun e w' => e = .returned (.int .i64 (176 + r)) ∧ Below w.heap.size w w' := by
  have HB := Lib.hid (fun W => len_is n (by omega) 11 hL W)
  have a1 : bits .or .i64 128 48 = 176 := by decide
  clear hL
  go_enter Tryz.func305, Tryz.ntmps305
  go_upto_region 6 with (first | (go_at_call 306; (with_reducible refine (half_4 _).mono ?_); rintro e w' ⟨rfl, rfl⟩) | (go_at_call 159; (with_reducible refine (HB.out _).mono ?_); rintro e w' ⟨rfl, rfl⟩))
  go_quiet (first | (go_at_call 339; exact Calls.quiet_of_same (small_4 _)) | (go_at_call 306; exact Calls.quiet_of_same (half_4 _)))
  go_wp2
  go_ret
  exact ⟨rfl, bdrew (Below.refl _ _) _⟩
set_option maxRecDepth 100000 in
set_option maxHeartbeats 2000000 in
theorem enc_4 (n r : Nat) (h : 128 ≤ (n : Int)) (hn : (n : Int) ≤ 9223372036854775807) (hL : (Lib.bitLen n : Int) = 12) (h2 : bits .and .i64 ((n : Int) / 128) 15 = (r : Int)) (h3 : bits .or .i64 192 (r : Int) = (192 + r : Int)) (w : World) : Calls Tryz.prog 305 #[.int .i64 4, .int .i64 n] w fun e w' => e = .returned (.int .i64 (192 + r)) ∧ Below w.heap.size w w' := by
  have HB := Lib.hid (fun W => len_is n (by omega) 12 hL W)
  have a1 : bits .or .i64 128 64 = 192 := by decide
  clear hL
  go_enter Tryz.func305, Tryz.ntmps305
  go_upto_region 6 with (first | (go_at_call 306; (with_reducible refine (half_4 _).mono ?_); rintro e w' ⟨rfl, rfl⟩) | (go_at_call 159; (with_reducible refine (HB.out _).mono ?_); rintro e w' ⟨rfl, rfl⟩))
  go_quiet (first | (go_at_call 339; exact Calls.quiet_of_same (small_4 _)) | (go_at_call 306; exact Calls.quiet_of_same (half_4 _)))
  go_wp2
  go_ret
  exact ⟨rfl, bdrew (Below.refl _ _) _⟩
set_option maxRecDepth 100000 in
set_option maxHeartbeats 2000000 in
theorem enc_5 (n r : Nat) (h : 128 ≤ (n : Int)) (hn : (n : Int) ≤ 9223372036854775807) (hL : (Lib.bitLen n : Int) = 13) (h2 : bits .and .i64 ((n : Int) / 256) 15 = (r : Int)) (h3 : bits .or .i64 208 (r : Int) = (208 + r : Int)) (w : World) : Calls Tryz.prog 305 #[.int .i64 4, .int .i64 n] w fun e w' => e = .returned (.int .i64 (208 + r)) ∧ Below w.heap.size w w' := by
  have HB := Lib.hid (fun W => len_is n (by omega) 13 hL W)
  have a1 : bits .or .i64 128 80 = 208 := by decide
  clear hL
  go_enter Tryz.func305, Tryz.ntmps305
  go_upto_region 6 with (first | (go_at_call 306; (with_reducible refine (half_4 _).mono ?_); rintro e w' ⟨rfl, rfl⟩) | (go_at_call 159; (with_reducible refine (HB.out _).mono ?_); rintro e w' ⟨rfl, rfl⟩))
  go_quiet (first | (go_at_call 339; exact Calls.quiet_of_same (small_4 _)) | (go_at_call 306; exact Calls.quiet_of_same (half_4 _)))
  go_wp2
  go_ret
  exact ⟨rfl, bdrew (Below.refl _ _) _⟩
set_option maxRecDepth 100000 in
set_option maxHeartbeats 2000000 in
theorem enc_6 (n r : Nat) (h : 128 ≤ (n : Int)) (hn : (n : Int) ≤ 9223372036854775807) (hL : (Lib.bitLen n : Int) = 14) (h2 : bits .and .i64 ((n : Int) / 512) 15 = (r : Int)) (h3 : bits .or .i64 224 (r : Int) = (224 + r : Int)) (w : World) : Calls Tryz.prog 305 #[.int .i64 4, .int .i64 n] w fun e w' => e = .returned (.int .i64 (224 + r)) ∧ Below w.heap.size w w' := by
  have HB := Lib.hid (fun W => len_is n (by omega) 14 hL W)
  have a1 : bits .or .i64 128 96 = 224 := by decide
  clear hL
  go_enter Tryz.func305, Tryz.ntmps305
  go_upto_region 6 with (first | (go_at_call 306; (with_reducible refine (half_4 _).mono ?_); rintro e w' ⟨rfl, rfl⟩) | (go_at_call 159; (with_reducible refine (HB.out _).mono ?_); rintro e w' ⟨rfl, rfl⟩))
  go_quiet (first | (go_at_call 339; exact Calls.quiet_of_same (small_4 _)) | (go_at_call 306; exact Calls.quiet_of_same (half_4 _)))
  go_wp2
  go_ret
  exact ⟨rfl, bdrew (Below.refl _ _) _⟩
set_option maxRecDepth 100000 in
set_option maxHeartbeats 2000000 in
theorem enc_7 (n r : Nat) (h : 128 ≤ (n : Int)) (hn : (n : Int) ≤ 9223372036854775807) (hL : (Lib.bitLen n : Int) = 15) (h2 : bits .and .i64 ((n : Int) / 1024) 15 = (r : Int)) (h3 : bits .or .i64 240 (r : Int) = (240 + r : Int)) (w : World) : Calls Tryz.prog 305 #[.int .i64 4, .int .i64 n] w fun e w' => e = .returned (.int .i64 (240 + r)) ∧ Below w.heap.size w w' := by
  have HB := Lib.hid (fun W => len_is n (by omega) 15 hL W)
  have a1 : bits .or .i64 128 112 = 240 := by decide
  clear hL
  go_enter Tryz.func305, Tryz.ntmps305
  go_upto_region 6 with (first | (go_at_call 306; (with_reducible refine (half_4 _).mono ?_); rintro e w' ⟨rfl, rfl⟩) | (go_at_call 159; (with_reducible refine (HB.out _).mono ?_); rintro e w' ⟨rfl, rfl⟩))
  go_quiet (first | (go_at_call 339; exact Calls.quiet_of_same (small_4 _)) | (go_at_call 306; exact Calls.quiet_of_same (half_4 _)))
  go_wp2
  go_ret
  exact ⟨rfl, bdrew (Below.refl _ _) _⟩
theorem or_big (q r : Nat) (hq : q ≤ 7) (h : r ≤ 15) : bits .or .i64 (((128 + 16 * q : Nat)) : Int) (r : Int) = ((128 + 16 * q + r : Nat) : Int) := by
  rw [i64_or_nat _ _ (by omega) (by omega)]
  have : ∀ (a : Fin 8) (k : Fin 16), (128 + 16 * a.val) ||| k.val = 128 + 16 * a.val + k.val := by decide
  have e := this ⟨q, by omega⟩ ⟨r, by omega⟩
  simp only at e
  rw [e]
theorem len_ge (n : Nat) (h : 128 ≤ n) (hn : n ≤ 9223372036854775807) : 8 ≤ Lib.bitLen n ∧ Lib.bitLen n ≤ 64 := by
  constructor
  · have e := Lib.bitLen_shift 7 n h (by omega)
    have p := Lib.bitLen_half (n / 2 ^ 7) (by show n / 128 ≠ 0; omega) (by show n / 128 < _; omega)
    omega
  · exact Lib.bitLenAux_le 64 n 64 (by omega)
/-- each number has a code -/
theorem enc_8 (n : Nat) (hn : n ≤ 9223372036854775807) : ∃ c : Nat, c ≤ 255 ∧ ∀ w, Calls Tryz.prog 305 #[.int .i64 4, .int .i64 n] w fun e w' => e = .returned (.int .i64 c) ∧ Below w.heap.size w w' := by
  by_cases h : n < 128
  · exact ⟨n, by omega, fun w => enc_low n (by omega) w⟩
  · obtain ⟨l1, l2⟩ := len_ge n (by omega) hn
    by_cases h16 : 16 ≤ Lib.bitLen n
    · exact ⟨255, by omega, fun w => enc_over n _ (by omega) (by omega) rfl (by omega) (by omega) w⟩
    · have hq : Lib.bitLen n = 8 ∨ Lib.bitLen n = 9 ∨ Lib.bitLen n = 10 ∨ Lib.bitLen n = 11 ∨ Lib.bitLen n = 12 ∨ Lib.bitLen n = 13 ∨ Lib.bitLen n = 14 ∨ Lib.bitLen n = 15 := by omega
      rcases hq with q | q | q | q | q | q | q | q
      · have a := and_15 (n / 8) (by omega)
        have o := or_big 0 (n / 8 % 16) (by decide) (by omega)
        refine ⟨128 + n / 8 % 16, by omega, fun w => ?_⟩
        refine (enc_0 n (n / 8 % 16) (by omega) (by omega) (by omega) (by rw [← a]; rfl) (by rw [show (128 : Int) = ((128 + 16 * 0 : Nat) : Int) from rfl, o]; omega) w).mono ?_
        rintro e w' ⟨rfl, g⟩
        exact ⟨by congr 2, g⟩
      · have a := and_15 (n / 16) (by omega)
        have o := or_big 1 (n / 16 % 16) (by decide) (by omega)
        refine ⟨144 + n / 16 % 16, by omega, fun w => ?_⟩
        refine (enc_1 n (n / 16 % 16) (by omega) (by omega) (by omega) (by rw [← a]; rfl) (by rw [show (144 : Int) = ((128 + 16 * 1 : Nat) : Int) from rfl, o]; omega) w).mono ?_
        rintro e w' ⟨rfl, g⟩
        exact ⟨by congr 2, g⟩
      · have a := and_15 (n / 32) (by omega)
        have o := or_big 2 (n / 32 % 16) (by decide) (by omega)
        refine ⟨160 + n / 32 % 16, by omega, fun w => ?_⟩
        refine (enc_2 n (n / 32 % 16) (by omega) (by omega) (by omega) (by rw [← a]; rfl) (by rw [show (160 : Int) = ((128 + 16 * 2 : Nat) : Int) from rfl, o]; omega) w).mono ?_
        rintro e w' ⟨rfl, g⟩
        exact ⟨by congr 2, g⟩
      · have a := and_15 (n / 64) (by omega)
        have o := or_big 3 (n / 64 % 16) (by decide) (by omega)
        refine ⟨176 + n / 64 % 16, by omega, fun w => ?_⟩
        refine (enc_3 n (n / 64 % 16) (by omega) (by omega) (by omega) (by rw [← a]; rfl) (by rw [show (176 : Int) = ((128 + 16 * 3 : Nat) : Int) from rfl, o]; omega) w).mono ?_
        rintro e w' ⟨rfl, g⟩
        exact ⟨by congr 2, g⟩
      · have a := and_15 (n / 128) (by omega)
        have o := or_big 4 (n / 128 % 16) (by decide) (by omega)
        refine ⟨192 + n / 128 % 16, by omega, fun w => ?_⟩
        refine (enc_4 n (n / 128 % 16) (by omega) (by omega) (by omega) (by rw [← a]; rfl) (by rw [show (192 : Int) = ((128 + 16 * 4 : Nat) : Int) from rfl, o]; omega) w).mono ?_
        rintro e w' ⟨rfl, g⟩
        exact ⟨by congr 2, g⟩
      · have a := and_15 (n / 256) (by omega)
        have o := or_big 5 (n / 256 % 16) (by decide) (by omega)
        refine ⟨208 + n / 256 % 16, by omega, fun w => ?_⟩
        refine (enc_5 n (n / 256 % 16) (by omega) (by omega) (by omega) (by rw [← a]; rfl) (by rw [show (208 : Int) = ((128 + 16 * 5 : Nat) : Int) from rfl, o]; omega) w).mono ?_
        rintro e w' ⟨rfl, g⟩
        exact ⟨by congr 2, g⟩
      · have a := and_15 (n / 512) (by omega)
        have o := or_big 6 (n / 512 % 16) (by decide) (by omega)
        refine ⟨224 + n / 512 % 16, by omega, fun w => ?_⟩
        refine (enc_6 n (n / 512 % 16) (by omega) (by omega) (by omega) (by rw [← a]; rfl) (by rw [show (224 : Int) = ((128 + 16 * 6 : Nat) : Int) from rfl, o]; omega) w).mono ?_
        rintro e w' ⟨rfl, g⟩
        exact ⟨by congr 2, g⟩
      · have a := and_15 (n / 1024) (by omega)
        have o := or_big 7 (n / 1024 % 16) (by decide) (by omega)
        refine ⟨240 + n / 1024 % 16, by omega, fun w => ?_⟩
        refine (enc_7 n (n / 1024 % 16) (by omega) (by omega) (by omega) (by rw [← a]; rfl) (by rw [show (240 : Int) = ((128 + 16 * 7 : Nat) : Int) from rfl, o]; omega) w).mono ?_
        rintro e w' ⟨rfl, g⟩
        exact ⟨by congr 2, g⟩
set_option maxRecDepth 100000 in
theorem enc8_is (n : Nat) (hn : n ≤ 9223372036854775807) : ∃ c : Nat, c ≤ 255 ∧ ∀ w, Calls Tryz.prog 208 #[.int .i64 n] w fun e w' => e = .returned (.tuple #[.int .i64 c, .int .i64 0]) ∧ Below w.heap.size w w' := by
  obtain ⟨c, hc, he⟩ := enc_8 n hn
  refine ⟨c, hc, fun w => ?_⟩
  have HE := Lib.hid he
  have h1 : (0 : Int) ≤ (n : Int) := by omega
  have HDc := Lib.hid (fun (W : World) => (show Calls Tryz.prog 261 #[.int .i64 4, .int .i64 n] W fun e w' => e = .returned (.tuple #[.int .i64 c, .int .i64 0]) ∧ Below W.heap.size W w' by
    go_enter Tryz.func261, Tryz.ntmps261
    go_wp2_with (go_at_call 305; (with_reducible refine (HE.out _).mono ?_); rintro e w1 ⟨rfl, g1⟩)
    go_ret2
    exact ⟨rfl, g1⟩))
  clear he
  go_enter Tryz.func208, Tryz.ntmps208
  go_wp2_with (go_at_call 261; (with_reducible refine (HDc.out _).mono ?_); rintro e w1 ⟨rfl, g1⟩)
  go_ret2
  exact ⟨rfl, g1⟩
set_option maxRecDepth 100000 in
theorem enc8_neg (n : Int) (hn : n < 0) (w : World) : Calls Tryz.prog 208 #[.int .i64 n] w fun e w' => e = .returned (.tuple #[.int .i64 0, .int .i64 1]) ∧ Below w.heap.size w w' := by
  have HDc := Lib.hid (fun (W : World) => (show Calls Tryz.prog 261 #[.int .i64 4, .int .i64 n] W fun e w' => e = .returned (.tuple #[.int .i64 0, .int .i64 1]) ∧ Below W.heap.size W w' by
    go_enter Tryz.func261, Tryz.ntmps261
    go_wp2
    go_ret2
    exact ⟨rfl, Below.refl _ _⟩))
  go_enter Tryz.func208, Tryz.ntmps208
  go_wp2_with (go_at_call 261; (with_reducible refine (HDc.out _).mono ?_); rintro e w1 ⟨rfl, g1⟩)
  go_ret2
  exact ⟨rfl, g1⟩
end Go.Proofs.YticdmepplfgdiaaGreatDoor
