/-
  The walks of the statements of layer 1: each returns true and leaves what was there alone. Conditions: the texts' lengths fit an int, the numbers are of their kind.
-/
import Derived.Test.YteogichfophngaaOct6
namespace Go.Proofs.Yteogichfophngaa
open Go.RowKit

theorem live_get (w : World) : Calls Try.prog 10 #[.string ⟨#[1, 2, 3]⟩, .int .i64 1, .int .i64 2] w fun e w' => e = .returned (.tuple #[.int .i64 515, .int .i64 0]) ∧ Below w.heap.size w w' :=
  get_ok ⟨#[1, 2, 3]⟩ 1 2 (by decide) (by decide) (by decide) (by decide) w
theorem live_put (w : World) : Calls Try.prog 13 #[.int .i64 256, .int .i64 1] w fun e w' => e = .returned (.tuple #[.string ⟨#[]⟩, .int .i64 1]) ∧ w = w' :=
  put_big 256 1 (by decide) (by decide) (by decide) w
theorem live_cut (w : World) : Calls Try.prog 15 #[.string ⟨#[97, 98, 99]⟩, .int .i64 3, .int .i64 0] w fun e w' => e = .returned (.tuple #[.string ⟨#[]⟩, .int .i64 0]) ∧ w = w' :=
  cut_ok ⟨#[97, 98, 99]⟩ 3 0 (by decide) (by decide) w
theorem live_cut2 (w : World) : Calls Try.prog 15 #[.string ⟨#[97, 98, 99]⟩, .int .i64 4, .int .i64 0] w fun e w' => e = .returned (.tuple #[.string ⟨#[]⟩, .int .i64 2]) ∧ w = w' :=
  cut_cut ⟨#[97, 98, 99]⟩ 4 0 (by decide) (by decide) (by decide) (by decide) w
theorem live_eight (w : World) : Calls Try.prog 19 #[.int .u64 258] w fun e w' => e = .returned (.string ⟨#[0, 0, 0, 0, 0, 0, 1, 2]⟩) ∧ Below w.heap.size w w' :=
  eight_any 258 w

set_option maxHeartbeats 400000 in
theorem live_any (w : World) : Calls Try.prog 12 #[] w fun e w' => e = .returned (.bool true) ∧ Below w.heap.size w w' := by
  go_enter Try.func12, Try.ntmps12
  go_wp2_with (first | ((with_reducible refine (live_get _).mono ?_); rintro e w1 ⟨rfl, h1⟩) | ((with_reducible refine (live_put _).mono ?_); rintro e w2 ⟨rfl, rfl⟩) | ((with_reducible refine (live_cut _).mono ?_); rintro e w3 ⟨rfl, rfl⟩) |
    ((with_reducible refine (live_cut2 _).mono ?_); rintro e w4 ⟨rfl, rfl⟩) | ((with_reducible refine (live_eight _).mono ?_); rintro e w5 ⟨rfl, h2⟩))
  go_ret
  exact ⟨rfl, h1.trans (h2.mono h1.size)⟩

set_option maxHeartbeats 400000 in
theorem octetGets_walk (s : ByteArray) (a n : Int) (hs : s.size ≤ 9223372036854775807) (w : World) :
    Calls Try.prog 3 #[.string s, .int .i64 a, .int .i64 n] w fun e w' => e = .returned (.bool true) ∧ Below w.heap.size w w' := by
  go_enter Try.func3, Try.ntmps3
  go_wp2_with (first | ((with_reducible refine (get_any s a n hs _).mono ?_); rintro e w1 ⟨rfl, h1⟩) | ((with_reducible refine (rget_any s a n hs _).mono ?_); rintro e w2 ⟨rfl, h2⟩) | ((with_reducible refine (live_any _).mono ?_); rintro e w3 ⟨rfl, h3⟩))
  go_ret
  exact ⟨rfl, h1.trans ((h2.trans (h3.mono h2.size)).mono h1.size)⟩

set_option maxHeartbeats 400000 in
theorem octetPuts_walk (n m : Int) (hn : n ≤ 9223372036854775807) (w : World) :
    Calls Try.prog 4 #[.int .i64 n, .int .i64 m] w fun e w' => e = .returned (.bool true) ∧ Below w.heap.size w w' := by
  go_enter Try.func4, Try.ntmps4
  go_wp2_with (first | ((with_reducible refine (put_any n m hn _).mono ?_); rintro e w1 ⟨rfl, h1⟩) | ((with_reducible refine (rput_all n m hn _).mono ?_); rintro e w2 ⟨rfl, h2⟩) | ((with_reducible refine (live_any _).mono ?_); rintro e w3 ⟨rfl, h3⟩))
  go_ret
  exact ⟨rfl, h1.trans ((h2.trans (h3.mono h2.size)).mono h1.size)⟩

set_option maxHeartbeats 400000 in
theorem octetCuts_walk (s : ByteArray) (a n : Int) (hs : s.size ≤ 9223372036854775807) (w : World) :
    Calls Try.prog 5 #[.string s, .int .i64 a, .int .i64 n] w fun e w' => e = .returned (.bool true) ∧ Below w.heap.size w w' := by
  go_enter Try.func5, Try.ntmps5
  go_wp2_with (first | ((with_reducible refine (cut_any s a n hs _).mono ?_); rintro e w1 ⟨rfl, rfl⟩) | ((with_reducible refine (rcut_any s a n hs _).mono ?_); rintro e w2 ⟨rfl, rfl⟩) | ((with_reducible refine (live_any _).mono ?_); rintro e w3 ⟨rfl, h3⟩))
  go_ret
  exact ⟨rfl, h3⟩

set_option maxHeartbeats 400000 in
theorem octetWide_walk (s : ByteArray) (a n : Int) (hs : s.size ≤ 9223372036854775807) (h0 : 0 ≤ n) (hn : n ≤ 18446744073709551615) (w : World) :
    Calls Try.prog 8 #[.string s, .int .i64 a, .int .u64 n] w fun e w' => e = .returned (.bool true) ∧ Below w.heap.size w w' := by
  obtain ⟨k, rfl⟩ := Int.eq_ofNat_of_zero_le h0
  go_enter Try.func8, Try.ntmps8
  go_wp2_with (first | ((with_reducible refine (wide_any s a hs _).mono ?_); rintro e w1 ⟨rfl, h1⟩) | ((with_reducible refine (rwide_any s a hs _).mono ?_); rintro e w2 ⟨rfl, h2⟩) | ((with_reducible refine (eight_any k _).mono ?_); rintro e w3 ⟨rfl, h3⟩) | ((with_reducible refine (reight_any k (by omega) _).mono ?_); rintro e w4 ⟨rfl, h4⟩) | ((with_reducible refine (live_any _).mono ?_); rintro e w5 ⟨rfl, h5⟩))
  go_ret
  exact ⟨rfl, h1.trans ((h2.trans ((h3.trans ((h4.trans (h5.mono h4.size)).mono h3.size)).mono h2.size)).mono h1.size)⟩
end Go.Proofs.Yteogichfophngaa
