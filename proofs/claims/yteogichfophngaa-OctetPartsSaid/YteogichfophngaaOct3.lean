/-
  What the program's octet.Get, Wide, Put, Eight and Cut compute, each case by itself. Conditions: those of each case; a text's length fits an int.
-/
import Derived.Test.YteogichfophngaaOct2
namespace Go.Proofs.Yteogichfophngaa
open Go.RowKit

theorem ret_bool {a b : Bool} (h : a = b) : Ending.returned (.bool a) = .returned (.bool b) := by rw [h]

theorem number8 (s : ByteArray) (a : Nat) (hs : s.size ≤ 9223372036854775807) (h : a + 8 ≤ s.size) (w : World) :
    Calls Try.prog 22 #[.string s, .int .i64 a, .int .i64 8] w fun e w' => e = .returned (.int .u64 (Pl.num ((s.data.toList.drop a).take 8))) ∧ Below w.heap.size w w' :=
  number_any s a 8 hs h (by omega) w

theorem bytes8 (n : Nat) (w : World) :
    Calls Try.prog 24 #[.int .u64 n, .int .i64 8] w fun e w' => e = .returned (.string ⟨(Pl.be 8 n).toArray⟩) ∧ Below w.heap.size w w' :=
  bytes_any n 8 (by omega) w

theorem shr_nat (n m : Nat) : ((n : Int) / 2 ^ (8 * m)) = ((n / 256 ^ m : Nat) : Int) := by
  rw [Int.pow_mul, Int.natCast_ediv, Int.natCast_pow]
  rfl

theorem stands_yes (s : ByteArray) (a n : Nat) (hs : s.size ≤ 9223372036854775807) (h : a + n ≤ s.size) (w : World) :
    Calls Try.prog 21 #[.string s, .int .i64 a, .int .i64 n] w fun e w' => e = .returned (.bool true) ∧ w = w' := by
  go_enter Try.func21, Try.ntmps21
  go_wp2
  go_ret
  exact ⟨ret_bool (decide_eq_true (by omega)), rfl⟩

theorem stands_8 (s : ByteArray) (a : Nat) (hs : s.size ≤ 9223372036854775807) (h : a + 8 ≤ s.size) (w : World) :
    Calls Try.prog 21 #[.string s, .int .i64 a, .int .i64 8] w fun e w' => e = .returned (.bool true) ∧ w = w' :=
  stands_yes s a 8 hs h w

theorem stands_no (s : ByteArray) (a n : Int) (hs : s.size ≤ 9223372036854775807) (ha : 0 ≤ a) (h : (s.size : Int) < a ∨ (s.size : Int) - a < n) (w : World) :
    Calls Try.prog 21 #[.string s, .int .i64 a, .int .i64 n] w fun e w' => e = .returned (.bool false) ∧ w = w' := by
  by_cases h1 : a ≤ s.size
  · have h2 : (s.size : Int) - a < n := by omega
    clear h
    go_enter Try.func21, Try.ntmps21
    go_wp2
    go_ret
    exact ⟨ret_bool (decide_eq_false (by omega)), rfl⟩
  · have h2 : (s.size : Int) < a := by omega
    clear h h1
    go_enter Try.func21, Try.ntmps21
    go_wp2
    go_ret
    exact ⟨rfl, rfl⟩

theorem get_arg (s : ByteArray) (a n : Int) (h : a < 0 ∨ n < 1 ∨ 4 < n) (w : World) :
    Calls Try.prog 10 #[.string s, .int .i64 a, .int .i64 n] w fun e w' => e = .returned (.tuple #[.int .i64 0, .int .i64 1]) ∧ w = w' := by
  by_cases h1 : a < 0
  · clear h
    go_enter Try.func10, Try.ntmps10
    go_wp2
    go_ret2
    exact ⟨rfl, rfl⟩
  · have h1' : 0 ≤ a := by omega
    by_cases h2 : n < 1
    · clear h h1
      go_enter Try.func10, Try.ntmps10
      go_wp2
      go_ret2
      exact ⟨rfl, rfl⟩
    · have h2' : 1 ≤ n := by omega
      have h3 : 4 < n := by omega
      clear h h1 h2
      go_enter Try.func10, Try.ntmps10
      go_wp2
      go_ret2
      exact ⟨rfl, rfl⟩

theorem get_cut (s : ByteArray) (a n : Int) (hs : s.size ≤ 9223372036854775807) (ha : 0 ≤ a) (h1 : 1 ≤ n) (h4 : n ≤ 4) (h : (s.size : Int) < a ∨ (s.size : Int) - a < n) (w : World) :
    Calls Try.prog 10 #[.string s, .int .i64 a, .int .i64 n] w fun e w' => e = .returned (.tuple #[.int .i64 0, .int .i64 2]) ∧ w = w' := by
  have H := Lib.hid h
  clear h
  go_enter Try.func10, Try.ntmps10
  go_wp2_with ((with_reducible refine (stands_no s a n hs ha H.out _).mono ?_); rintro e w' ⟨rfl, rfl⟩)
  go_ret2
  exact ⟨rfl, rfl⟩

theorem num4 (l : List UInt8) (n : Nat) (h4 : n ≤ 4) : Pl.num (l.take n) < 4294967296 := by
  have h1 := Pl.num_lt (l.take n)
  have h3 : 256 ^ (l.take n).length ≤ 256 ^ 4 := Nat.pow_le_pow_right (by decide) (by rw [List.length_take]; omega)
  have h4 : 256 ^ 4 = 4294967296 := by decide
  omega

theorem get_ok (s : ByteArray) (a n : Nat) (hs : s.size ≤ 9223372036854775807) (h1 : 1 ≤ n) (h4 : n ≤ 4) (h : a + n ≤ s.size) (w : World) :
    Calls Try.prog 10 #[.string s, .int .i64 a, .int .i64 n] w fun e w' => e = .returned (.tuple #[.int .i64 (Pl.num ((s.data.toList.drop a).take n)), .int .i64 0]) ∧ Below w.heap.size w w' := by
  have hb := num4 (s.data.toList.drop a) n h4
  go_enter Try.func10, Try.ntmps10
  go_wp2_with (first | ((with_reducible refine (stands_yes s a n hs h _).mono ?_); rintro e w' ⟨rfl, rfl⟩) | ((with_reducible refine (number_any s a n hs h (by omega) _).mono ?_); rintro e w' ⟨rfl, hbel⟩))
  go_ret2
  exact ⟨by first | rfl | (simp; done) | skip, hbel⟩

theorem wide_arg (s : ByteArray) (a : Int) (h : a < 0) (w : World) :
    Calls Try.prog 17 #[.string s, .int .i64 a] w fun e w' => e = .returned (.tuple #[.int .u64 0, .int .i64 1]) ∧ w = w' := by
  go_enter Try.func17, Try.ntmps17
  go_wp2
  go_ret2
  exact ⟨rfl, rfl⟩

theorem wide_cut (s : ByteArray) (a : Int) (hs : s.size ≤ 9223372036854775807) (ha : 0 ≤ a) (h : (s.size : Int) < a ∨ (s.size : Int) - a < 8) (w : World) :
    Calls Try.prog 17 #[.string s, .int .i64 a] w fun e w' => e = .returned (.tuple #[.int .u64 0, .int .i64 2]) ∧ w = w' := by
  have H := Lib.hid h
  clear h
  go_enter Try.func17, Try.ntmps17
  go_wp2_with ((with_reducible refine (stands_no s a 8 hs ha H.out _).mono ?_); rintro e w' ⟨rfl, rfl⟩)
  go_ret2
  exact ⟨rfl, rfl⟩

theorem wide_ok (s : ByteArray) (a : Nat) (hs : s.size ≤ 9223372036854775807) (h : a + 8 ≤ s.size) (w : World) :
    Calls Try.prog 17 #[.string s, .int .i64 a] w fun e w' => e = .returned (.tuple #[.int .u64 (Pl.num ((s.data.toList.drop a).take 8)), .int .i64 0]) ∧ Below w.heap.size w w' := by
  go_enter Try.func17, Try.ntmps17
  go_wp2_with (first | ((with_reducible refine (stands_8 s a hs h _).mono ?_); rintro e w' ⟨rfl, rfl⟩) | ((with_reducible refine (number8 s a hs h _).mono ?_); rintro e w' ⟨rfl, hbel⟩))
  go_ret2
  exact ⟨rfl, hbel⟩

theorem eight_any (n : Nat) (w : World) :
    Calls Try.prog 19 #[.int .u64 n] w fun e w' => e = .returned (.string ⟨(Pl.be 8 n).toArray⟩) ∧ Below w.heap.size w w' := by
  go_enter Try.func19, Try.ntmps19
  go_wp2_with ((with_reducible refine (bytes8 n _).mono ?_); rintro e w' ⟨rfl, hbel⟩)
  go_ret
  exact ⟨rfl, hbel⟩

theorem cut_arg (s : ByteArray) (a n : Int) (h : a < 0 ∨ n < 0) (w : World) :
    Calls Try.prog 15 #[.string s, .int .i64 a, .int .i64 n] w fun e w' => e = .returned (.tuple #[.string ⟨#[]⟩, .int .i64 1]) ∧ w = w' := by
  by_cases h1 : a < 0
  · clear h
    go_enter Try.func15, Try.ntmps15
    go_wp2
    go_ret2
    exact ⟨rfl, rfl⟩
  · have h1' : 0 ≤ a := by omega
    have h2 : n < 0 := by omega
    clear h h1
    go_enter Try.func15, Try.ntmps15
    go_wp2
    go_ret2
    exact ⟨rfl, rfl⟩

theorem cut_cut (s : ByteArray) (a n : Int) (hs : s.size ≤ 9223372036854775807) (ha : 0 ≤ a) (hn : 0 ≤ n) (h : (s.size : Int) < a ∨ (s.size : Int) - a < n) (w : World) :
    Calls Try.prog 15 #[.string s, .int .i64 a, .int .i64 n] w fun e w' => e = .returned (.tuple #[.string ⟨#[]⟩, .int .i64 2]) ∧ w = w' := by
  have H := Lib.hid h
  clear h
  go_enter Try.func15, Try.ntmps15
  go_wp2_with ((with_reducible refine (stands_no s a n hs ha H.out _).mono ?_); rintro e w' ⟨rfl, rfl⟩)
  go_ret2
  exact ⟨rfl, rfl⟩

theorem cut_ok (s : ByteArray) (a n : Nat) (hs : s.size ≤ 9223372036854775807) (h : a + n ≤ s.size) (w : World) :
    Calls Try.prog 15 #[.string s, .int .i64 a, .int .i64 n] w fun e w' => e = .returned (.tuple #[.string (s.extract a (a + n)), .int .i64 0]) ∧ w = w' := by
  go_enter Try.func15, Try.ntmps15
  go_wp2_with ((with_reducible refine (stands_yes s a n hs h _).mono ?_); rintro e w' ⟨rfl, rfl⟩)
  go_ret2
  exact ⟨rfl, rfl⟩

theorem put_arg (n m : Int) (hm : m < 1 ∨ 4 < m ∨ n < 0) (w : World) :
    Calls Try.prog 13 #[.int .i64 n, .int .i64 m] w fun e w' => e = .returned (.tuple #[.string ⟨#[]⟩, .int .i64 1]) ∧ w = w' := by
  by_cases h1 : m < 1
  · clear hm
    go_enter Try.func13, Try.ntmps13
    go_wp2
    go_ret2
    exact ⟨rfl, rfl⟩
  · have h1' : 1 ≤ m := by omega
    by_cases h2 : 4 < m
    · clear hm h1
      go_enter Try.func13, Try.ntmps13
      go_wp2
      go_ret2
      exact ⟨rfl, rfl⟩
    · have h2' : m ≤ 4 := by omega
      have h3 : n < 0 := by omega
      clear hm h1 h2
      go_enter Try.func13, Try.ntmps13
      go_wp2
      go_ret2
      exact ⟨rfl, rfl⟩

theorem put_ok (n m : Nat) (h1 : 1 ≤ m) (h4 : m ≤ 4) (h : n < 256 ^ m) (hn : n ≤ 9223372036854775807) (w : World) :
    Calls Try.prog 13 #[.int .i64 n, .int .i64 m] w fun e w' => e = .returned (.tuple #[.string ⟨(Pl.be m n).toArray⟩, .int .i64 0]) ∧ Below w.heap.size w w' := by
  have hq : ((n : Int) / 2 ^ (8 * m) != 0) = false := by rw [shr_nat, Nat.div_eq_of_lt h]; rfl
  have d1 : decide ((m : Int) < 1) = false := decide_eq_false (by omega)
  have d2 : decide (4 < (m : Int)) = false := decide_eq_false (by omega)
  clear h
  go_enter Try.func13, Try.ntmps13
  go_wp2_with ((with_reducible refine (bytes_any n m (by omega) _).mono ?_); rintro e w' ⟨rfl, hbel⟩)
  go_ret2
  exact ⟨rfl, hbel⟩

theorem put_big (n m : Nat) (h1 : 1 ≤ m) (h4 : m ≤ 4) (h : 256 ^ m ≤ n) (w : World) :
    Calls Try.prog 13 #[.int .i64 n, .int .i64 m] w fun e w' => e = .returned (.tuple #[.string ⟨#[]⟩, .int .i64 1]) ∧ w = w' := by
  have hq : ((n : Int) / 2 ^ (8 * m) != 0) = true := by
    have hp : 0 < n / 256 ^ m := Nat.div_pos h (Nat.pow_pos (by decide))
    rw [shr_nat, bne_iff_ne]; omega
  have d1 : decide ((m : Int) < 1) = false := decide_eq_false (by omega)
  have d2 : decide (4 < (m : Int)) = false := decide_eq_false (by omega)
  clear h
  go_enter Try.func13, Try.ntmps13
  go_wp2
  go_ret2
  exact ⟨rfl, rfl⟩
end Go.Proofs.Yteogichfophngaa
