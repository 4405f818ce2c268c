/-
  What the reference's Get, Wide, Put, Eight and Cut (siphonref01) compute, each case by itself: the same as the program's. Conditions: those of each case; a text's length fits an int.
-/
import Derived.Test.YteogichfophngaaOct3
namespace Go.Proofs.Yteogichfophngaa
open Go.RowKit

theorem fits_yes (s : ByteArray) (a n : Nat) (hs : s.size ≤ 9223372036854775807) (h : a + n ≤ s.size) (w : World) :
    Calls Try.prog 23 #[.string s, .int .i64 a, .int .i64 n] w fun e w' => e = .returned (.bool true) ∧ w = w' := by
  go_enter Try.func23, Try.ntmps23
  go_wp2
  go_ret
  exact ⟨ret_bool (decide_eq_true (by omega)), rfl⟩

theorem fits_8 (s : ByteArray) (a : Nat) (hs : s.size ≤ 9223372036854775807) (h : a + 8 ≤ s.size) (w : World) :
    Calls Try.prog 23 #[.string s, .int .i64 a, .int .i64 8] w fun e w' => e = .returned (.bool true) ∧ w = w' :=
  fits_yes s a 8 hs h w

theorem fits_no (s : ByteArray) (a n : Int) (hs : s.size ≤ 9223372036854775807) (ha : 0 ≤ a) (h : (s.size : Int) < a ∨ (s.size : Int) - a < n) (w : World) :
    Calls Try.prog 23 #[.string s, .int .i64 a, .int .i64 n] w fun e w' => e = .returned (.bool false) ∧ w = w' := by
  by_cases h1 : a ≤ s.size
  · have h2 : (s.size : Int) - a < n := by omega
    clear h
    go_enter Try.func23, Try.ntmps23
    go_wp2
    go_ret
    exact ⟨ret_bool (decide_eq_false (by omega)), rfl⟩
  · have h2 : (s.size : Int) < a := by omega
    clear h h1
    go_enter Try.func23, Try.ntmps23
    go_wp2
    go_ret
    exact ⟨rfl, rfl⟩

theorem rget_arg (s : ByteArray) (a n : Int) (h : a < 0 ∨ n < 1 ∨ 4 < n) (w : World) :
    Calls Try.prog 11 #[.string s, .int .i64 a, .int .i64 n] w fun e w' => e = .returned (.tuple #[.int .i64 0, .int .i64 1]) ∧ w = w' := by
  by_cases h1 : a < 0
  · clear h
    go_enter Try.func11, Try.ntmps11
    go_wp2
    go_ret2
    exact ⟨rfl, rfl⟩
  · have h1' : 0 ≤ a := by omega
    by_cases h2 : n < 1
    · clear h h1
      go_enter Try.func11, Try.ntmps11
      go_wp2
      go_ret2
      exact ⟨rfl, rfl⟩
    · have h2' : 1 ≤ n := by omega
      have h3 : 4 < n := by omega
      clear h h1 h2
      go_enter Try.func11, Try.ntmps11
      go_wp2
      go_ret2
      exact ⟨rfl, rfl⟩

theorem rget_cut (s : ByteArray) (a n : Int) (hs : s.size ≤ 9223372036854775807) (ha : 0 ≤ a) (h1 : 1 ≤ n) (h4 : n ≤ 4) (h : (s.size : Int) < a ∨ (s.size : Int) - a < n) (w : World) :
    Calls Try.prog 11 #[.string s, .int .i64 a, .int .i64 n] w fun e w' => e = .returned (.tuple #[.int .i64 0, .int .i64 2]) ∧ w = w' := by
  have H := Lib.hid h
  clear h
  go_enter Try.func11, Try.ntmps11
  go_wp2_with ((with_reducible refine (fits_no s a n hs ha H.out _).mono ?_); rintro e w' ⟨rfl, rfl⟩)
  go_ret2
  exact ⟨rfl, rfl⟩

/-- a round of the reader: the next byte -/
theorem num_step (s : ByteArray) (a n k : Nat) (h : a + n ≤ s.size) (hk : k < n) (hb : a + k < s.size) :
    Pl.num (((s.data.toList.drop a).take n).take (k + 1)) = 256 * Pl.num (((s.data.toList.drop a).take n).take k) + (s[a + k]'hb).toNat := by
  have e : s.data.toList.length = s.size := by rw [Array.length_toList]; rfl
  rw [num_take _ _ (by rw [List.length_take, List.length_drop]; omega)]
  congr 2
  rw [List.getD_eq_getElem?_getD, List.getElem?_take_of_lt hk, List.getElem?_drop, List.getElem?_eq_getElem (by omega)]
  rfl

theorem wrap_step (q : Nat) (b : UInt8) (hq : q < 16777216) : wrap64 (256 * (q : Int) + wrap64 (b.toNat : Int)) = ((256 * q + b.toNat : Nat) : Int) := by
  have hb := b.toNat_lt
  rw [IntWalk.wrap64_in (b.toNat : Int) ⟨by omega, by omega⟩, IntWalk.wrap64_in _ ⟨by omega, by omega⟩]
  omega

theorem wrapu_step (q : Nat) (b : UInt8) (hq : q < 72057594037927936) : IntKind.u64.wrap (256 * (q : Int) + IntKind.u64.wrap (b.toNat : Int)) = ((256 * q + b.toNat : Nat) : Int) := by
  have hb := b.toNat_lt
  rw [IntWalk.u64_in (b.toNat : Int) ⟨by omega, by omega⟩, IntWalk.u64_in _ ⟨by omega, by omega⟩]
  omega

set_option maxHeartbeats 400000 in
theorem rget_ok (s : ByteArray) (a n : Nat) (hs : s.size ≤ 9223372036854775807) (h1 : 1 ≤ n) (h4 : n ≤ 4) (h : a + n ≤ s.size) (w : World) :
    Calls Try.prog 11 #[.string s, .int .i64 a, .int .i64 n] w fun e w' => e = .returned (.tuple #[.int .i64 (Pl.num ((s.data.toList.drop a).take n)), .int .i64 0]) ∧ Below w.heap.size w w' := by
  have hst := fun k hk hb => num_step s a n k h hk hb
  have H := Lib.hid hst
  clear hst
  have hl : ((s.data.toList.drop a).take n).length = n := by
    have e : s.data.toList.length = s.size := by rw [Array.length_toList]; rfl
    rw [List.length_take, List.length_drop]; omega
  have HL := Lib.hid hl
  clear hl
  go_enter Try.func11, Try.ntmps11
  go_wp2_with ((with_reducible refine (fits_yes s a n hs h _).mono ?_); rintro e w' ⟨rfl, rfl⟩)
  go_loop [8, 9] (fun m i => ∃ k q : Nat, k ≤ n ∧ i = .int .i64 k ∧ m = .int .i64 q ∧ Hid (q = Pl.num (((s.data.toList.drop a).take n).take k))) (fun _ i => n - (intOf i).toNat)
  case atStart => exact ⟨0, 0, Nat.zero_le _, rfl, rfl, rfl⟩
  case round =>
    obtain ⟨k, q, hk, rfl, rfl, hq⟩ := hrel
    by_cases hlt : k < n
    · have hb : a + k < s.size := by omega
      have hq2 : q < 16777216 := by
        rw [hq.out]
        have h1 := Pl.num_lt (((s.data.toList.drop a).take n).take k)
        have h3 : 256 ^ (((s.data.toList.drop a).take n).take k).length ≤ 256 ^ 3 := Nat.pow_le_pow_right (by decide) (by rw [List.length_take]; omega)
        have h4 : 256 ^ 3 = 16777216 := by decide
        omega
      go_wp2
      refine ⟨⟨k + 1, 256 * q + (s[a + k]'hb).toNat, by omega, by go_num, ?_, ?_⟩, by simp [intOf]; omega⟩
      · exact congrArg _ (wrap_step q _ hq2)
      · rw [H.out k hlt hb, ← hq.out]; rfl
    · go_wp2
      go_ret2
      obtain rfl : k = n := by omega
      rw [hq.out, List.take_of_length_le (by rw [HL.out]; omega)]
      exact ⟨rfl, Below.refl _ _⟩

theorem rwide_arg (s : ByteArray) (a : Int) (h : a < 0) (w : World) :
    Calls Try.prog 18 #[.string s, .int .i64 a] w fun e w' => e = .returned (.tuple #[.int .u64 0, .int .i64 1]) ∧ w = w' := by
  go_enter Try.func18, Try.ntmps18
  go_wp2
  go_ret2
  exact ⟨rfl, rfl⟩

theorem rwide_cut (s : ByteArray) (a : Int) (hs : s.size ≤ 9223372036854775807) (ha : 0 ≤ a) (h : (s.size : Int) < a ∨ (s.size : Int) - a < 8) (w : World) :
    Calls Try.prog 18 #[.string s, .int .i64 a] w fun e w' => e = .returned (.tuple #[.int .u64 0, .int .i64 2]) ∧ w = w' := by
  have H := Lib.hid h
  clear h
  go_enter Try.func18, Try.ntmps18
  go_wp2_with ((with_reducible refine (fits_no s a 8 hs ha H.out _).mono ?_); rintro e w' ⟨rfl, rfl⟩)
  go_ret2
  exact ⟨rfl, rfl⟩

set_option maxHeartbeats 400000 in
theorem rwide_ok (s : ByteArray) (a : Nat) (hs : s.size ≤ 9223372036854775807) (h : a + 8 ≤ s.size) (w : World) :
    Calls Try.prog 18 #[.string s, .int .i64 a] w fun e w' => e = .returned (.tuple #[.int .u64 (Pl.num ((s.data.toList.drop a).take 8)), .int .i64 0]) ∧ Below w.heap.size w w' := by
  have hst := fun k hk hb => num_step s a 8 k h hk hb
  have H := Lib.hid hst
  clear hst
  have hl : ((s.data.toList.drop a).take 8).length = 8 := by
    have e : s.data.toList.length = s.size := by rw [Array.length_toList]; rfl
    rw [List.length_take, List.length_drop]; omega
  have HL := Lib.hid hl
  clear hl
  go_enter Try.func18, Try.ntmps18
  go_wp2_with ((with_reducible refine (fits_8 s a hs h _).mono ?_); rintro e w' ⟨rfl, rfl⟩)
  go_loop [6, 7] (fun m i => ∃ k q : Nat, k ≤ 8 ∧ i = .int .i64 k ∧ m = .int .u64 q ∧ Hid (q = Pl.num (((s.data.toList.drop a).take 8).take k))) (fun _ i => 8 - (intOf i).toNat)
  case atStart => exact ⟨0, 0, Nat.zero_le _, rfl, rfl, rfl⟩
  case round =>
    obtain ⟨k, q, hk, rfl, rfl, hq⟩ := hrel
    by_cases hlt : k < 8
    · have hb : a + k < s.size := by omega
      have hq2 : q < 72057594037927936 := by
        rw [hq.out]
        exact num_take_lt _ k 7 (by omega) (by omega)
      go_wp2
      refine ⟨⟨k + 1, 256 * q + (s[a + k]'hb).toNat, by omega, by go_num, ?_, ?_⟩, by simp [intOf]; omega⟩
      · exact congrArg _ (wrapu_step q _ hq2)
      · rw [H.out k hlt hb, ← hq.out]; rfl
    · go_wp2
      go_ret2
      obtain rfl : k = 8 := by omega
      rw [hq.out, List.take_of_length_le (l := (s.data.toList.drop a).take 8) (by rw [HL.out]; omega)]
      exact ⟨rfl, Below.refl _ _⟩

theorem rcut_arg (s : ByteArray) (a n : Int) (h : a < 0 ∨ n < 0) (w : World) :
    Calls Try.prog 16 #[.string s, .int .i64 a, .int .i64 n] w fun e w' => e = .returned (.tuple #[.string ⟨#[]⟩, .int .i64 1]) ∧ w = w' := by
  by_cases h1 : a < 0
  · clear h
    go_enter Try.func16, Try.ntmps16
    go_wp2
    go_ret2
    exact ⟨rfl, rfl⟩
  · have h1' : 0 ≤ a := by omega
    have h2 : n < 0 := by omega
    clear h h1
    go_enter Try.func16, Try.ntmps16
    go_wp2
    go_ret2
    exact ⟨rfl, rfl⟩

theorem rcut_cut (s : ByteArray) (a n : Int) (hs : s.size ≤ 9223372036854775807) (ha : 0 ≤ a) (hn : 0 ≤ n) (h : (s.size : Int) < a ∨ (s.size : Int) - a < n) (w : World) :
    Calls Try.prog 16 #[.string s, .int .i64 a, .int .i64 n] w fun e w' => e = .returned (.tuple #[.string ⟨#[]⟩, .int .i64 2]) ∧ w = w' := by
  have H := Lib.hid h
  clear h
  go_enter Try.func16, Try.ntmps16
  go_wp2_with ((with_reducible refine (fits_no s a n hs ha H.out _).mono ?_); rintro e w' ⟨rfl, rfl⟩)
  go_ret2
  exact ⟨rfl, rfl⟩

theorem rcut_ok (s : ByteArray) (a n : Nat) (hs : s.size ≤ 9223372036854775807) (h : a + n ≤ s.size) (w : World) :
    Calls Try.prog 16 #[.string s, .int .i64 a, .int .i64 n] w fun e w' => e = .returned (.tuple #[.string (s.extract a (a + n)), .int .i64 0]) ∧ w = w' := by
  go_enter Try.func16, Try.ntmps16
  go_wp2_with ((with_reducible refine (fits_yes s a n hs h _).mono ?_); rintro e w' ⟨rfl, rfl⟩)
  go_ret2
  exact ⟨rfl, rfl⟩

theorem rput_arg (n m : Int) (hm : m < 1 ∨ 4 < m ∨ n < 0) (w : World) :
    Calls Try.prog 14 #[.int .i64 n, .int .i64 m] w fun e w' => e = .returned (.tuple #[.string ⟨#[]⟩, .int .i64 1]) ∧ w = w' := by
  by_cases h1 : m < 1
  · clear hm
    go_enter Try.func14, Try.ntmps14
    go_wp2
    go_ret2
    exact ⟨rfl, rfl⟩
  · have h1' : 1 ≤ m := by omega
    by_cases h2 : 4 < m
    · clear hm h1
      go_enter Try.func14, Try.ntmps14
      go_wp2
      go_ret2
      exact ⟨rfl, rfl⟩
    · have h2' : m ≤ 4 := by omega
      have h3 : n < 0 := by omega
      clear hm h1 h2
      go_enter Try.func14, Try.ntmps14
      go_wp2
      go_ret2
      exact ⟨rfl, rfl⟩

end Go.Proofs.Yteogichfophngaa
