/-
  What the reference's Get (siphonref01) computes. Condition: the text's length fits an int.
-/
import Derived.Test.YthpdfihmpoofaaaCases
import Derived.Test.YthpdfihmpoofaaaFits
namespace Go.Proofs.Ythpdfihmpoofaaa
open Go.RowKit

theorem rget_arg (s : ByteArray) (a n : Int) (h : a < 0 ∨ n < 1 ∨ 4 < n) (w : World) :
    Calls Try.prog 31 #[.string s, .int .i64 a, .int .i64 n] w fun e w' => e = .returned (.tuple #[.int .i64 0, .int .i64 1]) ∧ w = w' := by
  by_cases h1 : a < 0
  · clear h
    go_enter Try.func31, Try.ntmps31
    go_wp2
    go_ret2
    exact ⟨rfl, rfl⟩
  · have h1' : 0 ≤ a := by omega
    by_cases h2 : n < 1
    · clear h h1
      go_enter Try.func31, Try.ntmps31
      go_wp2
      go_ret2
      exact ⟨rfl, rfl⟩
    · have h2' : 1 ≤ n := by omega
      have h3 : 4 < n := by omega
      clear h h1 h2
      go_enter Try.func31, Try.ntmps31
      go_wp2
      go_ret2
      exact ⟨rfl, rfl⟩

theorem rget_cut (s : ByteArray) (a n : Int) (hs : s.size ≤ 9223372036854775807) (ha : 0 ≤ a) (h1 : 1 ≤ n) (h4 : n ≤ 4) (h : (s.size : Int) < a ∨ (s.size : Int) - a < n) (w : World) :
    Calls Try.prog 31 #[.string s, .int .i64 a, .int .i64 n] w fun e w' => e = .returned (.tuple #[.int .i64 0, .int .i64 2]) ∧ w = w' := by
  have H := Lib.hid h
  clear h
  go_enter Try.func31, Try.ntmps31
  go_wp2_with ((with_reducible refine (fits_no s a n hs ha H.out _).mono ?_); rintro e w' ⟨rfl, rfl⟩)
  go_ret2
  exact ⟨rfl, rfl⟩

set_option maxHeartbeats 400000 in
theorem rget_ok (s : ByteArray) (a n : Nat) (hs : s.size ≤ 9223372036854775807) (h1 : 1 ≤ n) (h4 : n ≤ 4) (h : a + n ≤ s.size) (w : World) :
    Calls Try.prog 31 #[.string s, .int .i64 a, .int .i64 n] w fun e w' => e = .returned (.tuple #[.int .i64 (Pl.num ((s.data.toList.drop a).take n)), .int .i64 0]) ∧ Below w.heap.size w w' := by
  have hst := fun k hk hb => num_step s a n k h hk hb
  have H := Lib.hid hst
  clear hst
  have hl : ((s.data.toList.drop a).take n).length = n := by
    have e : s.data.toList.length = s.size := by rw [Array.length_toList]; rfl
    rw [List.length_take, List.length_drop]; omega
  have HL := Lib.hid hl
  clear hl
  go_enter Try.func31, Try.ntmps31
  go_wp2_with ((with_reducible refine (fits_yes s a n hs h _).mono ?_); rintro e w' ⟨rfl, rfl⟩)
  go_loop [8, 9] (fun m i => ∃ k q : Nat, k ≤ n ∧ i = .int .i64 k ∧ m = .int .i64 q ∧ Hid (q = Pl.num (((s.data.toList.drop a).take n).take k))) (fun _ i => n - (intOf i).toNat)
  case atStart => exact ⟨0, 0, Nat.zero_le _, rfl, rfl, rfl⟩
  case round =>
    obtain ⟨k, q, hk, rfl, rfl, hq⟩ := hrel
    by_cases hlt : k < n
    · have hb : a + k < s.size := by omega
      have hq2 : q < 16777216 := by
        rw [hq.out]
        have h1 := Pl.num_lt (((s.data.toList.drop a).take n).take k)
        have h3 : 256 ^ (((s.data.toList.drop a).take n).take k).length ≤ 256 ^ 3 := Nat.pow_le_pow_right (by decide) (by rw [List.length_take]; omega)
        have h4 : 256 ^ 3 = 16777216 := by decide
        omega
      go_wp2
      refine ⟨⟨k + 1, 256 * q + (s[a + k]'hb).toNat, by omega, by go_num, ?_, ?_⟩, by simp [intOf]; omega⟩
      · exact congrArg _ (wrap_step q _ hq2)
      · rw [H.out k hlt hb, ← hq.out]; rfl
    · go_wp2
      go_ret2
      obtain rfl : k = n := by omega
      rw [hq.out, List.take_of_length_le (by rw [HL.out]; omega)]
      exact ⟨rfl, Below.refl _ _⟩

theorem rget_any (s : ByteArray) (a n : Int) (hs : s.size ≤ 9223372036854775807) (w : World) :
    Calls Try.prog 31 #[.string s, .int .i64 a, .int .i64 n] w fun e w' => e = .returned (.tuple #[.int .i64 (getV s a n), .int .i64 (getE s a n)]) ∧ Below w.heap.size w w' :=
  get_cases s a n (P := fun v c => Calls Try.prog 31 #[.string s, .int .i64 a, .int .i64 n] w fun e w' => e = .returned (.tuple #[.int .i64 v, .int .i64 c]) ∧ Below w.heap.size w w')
    (fun h => (rget_arg s a n h w).mono fun _ _ ⟨h1, h2⟩ => ⟨h1, h2 ▸ Below.refl _ _⟩)
    (fun h0 h1 h4 h => (rget_cut s a n hs h0 h1 h4 h w).mono fun _ _ ⟨h1, h2⟩ => ⟨h1, h2 ▸ Below.refl _ _⟩)
    (fun x m ea en h1 h4 h => by subst ea en; exact rget_ok s x m hs h1 h4 h w)

end Go.Proofs.Ythpdfihmpoofaaa
