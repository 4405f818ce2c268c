/-
  What the reference's Wide (siphonref01) computes. Condition: the text's length fits an int.
-/
import Derived.Test.YthleobklagjlbaaCases
import Derived.Test.YthleobklagjlbaaFits
namespace Go.Proofs.Ythleobklagjlbaa
open Go.RowKit

theorem rwide_arg (s : ByteArray) (a : Int) (h : a < 0) (w : World) :
    Calls Try.prog 18 #[.string s, .int .i64 a] w fun e w' => e = .returned (.tuple #[.int .u64 0, .int .i64 1]) ∧ w = w' := by
  go_enter Try.func18, Try.ntmps18
  go_wp2
  go_ret2
  exact ⟨rfl, rfl⟩

theorem rwide_cut (s : ByteArray) (a : Int) (hs : s.size ≤ 9223372036854775807) (ha : 0 ≤ a) (h : (s.size : Int) < a ∨ (s.size : Int) - a < 8) (w : World) :
    Calls Try.prog 18 #[.string s, .int .i64 a] w fun e w' => e = .returned (.tuple #[.int .u64 0, .int .i64 2]) ∧ w = w' := by
  have H := Lib.hid h
  clear h
  go_enter Try.func18, Try.ntmps18
  go_wp2_with ((with_reducible refine (fits_no s a 8 hs ha H.out _).mono ?_); rintro e w' ⟨rfl, rfl⟩)
  go_ret2
  exact ⟨rfl, rfl⟩

set_option maxHeartbeats 400000 in
theorem rwide_ok (s : ByteArray) (a : Nat) (hs : s.size ≤ 9223372036854775807) (h : a + 8 ≤ s.size) (w : World) :
    Calls Try.prog 18 #[.string s, .int .i64 a] w fun e w' => e = .returned (.tuple #[.int .u64 (Pl.num ((s.data.toList.drop a).take 8)), .int .i64 0]) ∧ Below w.heap.size w w' := by
  have hst := fun k hk hb => num_step s a 8 k h hk hb
  have H := Lib.hid hst
  clear hst
  have hl : ((s.data.toList.drop a).take 8).length = 8 := by
    have e : s.data.toList.length = s.size := by rw [Array.length_toList]; rfl
    rw [List.length_take, List.length_drop]; omega
  have HL := Lib.hid hl
  clear hl
  go_enter Try.func18, Try.ntmps18
  go_wp2_with ((with_reducible refine (fits_8 s a hs h _).mono ?_); rintro e w' ⟨rfl, rfl⟩)
  go_loop [6, 7] (fun m i => ∃ k q : Nat, k ≤ 8 ∧ i = .int .i64 k ∧ m = .int .u64 q ∧ Hid (q = Pl.num (((s.data.toList.drop a).take 8).take k))) (fun _ i => 8 - (intOf i).toNat)
  case atStart => exact ⟨0, 0, Nat.zero_le _, rfl, rfl, rfl⟩
  case round =>
    obtain ⟨k, q, hk, rfl, rfl, hq⟩ := hrel
    by_cases hlt : k < 8
    · have hb : a + k < s.size := by omega
      have hq2 : q < 72057594037927936 := by
        rw [hq.out]
        exact num_take_lt _ k 7 (by omega) (by omega)
      go_wp2
      refine ⟨⟨k + 1, 256 * q + (s[a + k]'hb).toNat, by omega, by go_num, ?_, ?_⟩, by simp [intOf]; omega⟩
      · exact congrArg _ (wrapu_step q _ hq2)
      · rw [H.out k hlt hb, ← hq.out]; rfl
    · go_wp2
      go_ret2
      obtain rfl : k = 8 := by omega
      rw [hq.out, List.take_of_length_le (l := (s.data.toList.drop a).take 8) (by rw [HL.out]; omega)]
      exact ⟨rfl, Below.refl _ _⟩

theorem rwide_any (s : ByteArray) (a : Int) (hs : s.size ≤ 9223372036854775807) (w : World) :
    Calls Try.prog 18 #[.string s, .int .i64 a] w fun e w' => e = .returned (.tuple #[.int .u64 (wideV s a), .int .i64 (wideE s a)]) ∧ Below w.heap.size w w' :=
  wide_cases s a (P := fun v c => Calls Try.prog 18 #[.string s, .int .i64 a] w fun e w' => e = .returned (.tuple #[.int .u64 v, .int .i64 c]) ∧ Below w.heap.size w w')
    (fun h => (rwide_arg s a h w).mono fun _ _ ⟨h1, h2⟩ => ⟨h1, h2 ▸ Below.refl _ _⟩)
    (fun h0 h => (rwide_cut s a hs h0 h w).mono fun _ _ ⟨h1, h2⟩ => ⟨h1, h2 ▸ Below.refl _ _⟩)
    (fun x ea h => by subst ea; exact rwide_ok s x hs h w)

end Go.Proofs.Ythleobklagjlbaa
