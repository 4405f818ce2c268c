/-
  What the program's csum.Pseudo computes: what stands ahead of a message in its sum. Condition: the numbers are of their kind.
-/
import Derived.Test.YtcheceapcimbmaaPut
import Derived.Test.YtcheceapcimbmaaPsPl
namespace Go.Proofs.Ytcheceapcimbmaa
open Go.RowKit

set_option maxHeartbeats 1000000 in
theorem pseudo_4 (a b : ByteArray) (n p : Nat) (ha : a.size = 4) (hb : b.size = 4) (hn : n ≤ 65535) (hp : p ≤ 255) (w : World) :
    Calls Try.prog 13 #[.string a, .string b, .int .i64 n, .int .i64 p] w fun e w' => e = .returned (.tuple #[.string (Cs.ps4 a b n p), .int .i64 0]) ∧ Below w.heap.size w w' := by
  obtain ⟨x, hx⟩ : ∃ x : ByteArray, x = ⟨(Pl.be 1 p).toArray⟩ := ⟨_, rfl⟩
  obtain ⟨y, hy⟩ : ∃ x : ByteArray, x = ⟨(Pl.be 2 n).toArray⟩ := ⟨_, rfl⟩
  have sx : x.size ≤ 1 := by rw [hx, size_mk, Pl.be_length]; omega
  have sy : y.size ≤ 2 := by rw [hy, size_mk, Pl.be_length]; omega
  have hP : Puts p 1 x 0 := by rw [hx]; exact puts_good p 1 (by omega) (by decide) (by decide) (by omega)
  have hN : Puts n 2 y 0 := by rw [hy]; exact puts_good n 2 (by omega) (by decide) (by decide) (by omega)
  have hres : a ++ b ++ ⟨#[0]⟩ ++ x ++ y = Cs.ps4 a b n p := by rw [hx, hy]; rfl
  have HR := Lib.hid hres
  clear hres hx hy
  go_enter Try.func13, Try.ntmps13
  go_wp2_with (first | ((with_reducible refine (hP.to _).mono ?_); rintro e w1 ⟨rfl, h1⟩) | ((with_reducible refine (hN.to _).mono ?_); rintro e w2 ⟨rfl, h2⟩))
  go_ret2
  exact ⟨by rw [← HR.out]; rfl, bstep h1 h2⟩

set_option maxHeartbeats 1000000 in
theorem pseudo_16 (a b : ByteArray) (n p : Nat) (ha : a.size = 16) (hb : b.size = 16) (hn : n ≤ 65535) (hp : p ≤ 255) (w : World) :
    Calls Try.prog 13 #[.string a, .string b, .int .i64 n, .int .i64 p] w fun e w' => e = .returned (.tuple #[.string (Cs.ps16 a b n p), .int .i64 0]) ∧ Below w.heap.size w w' := by
  obtain ⟨x, hx⟩ : ∃ x : ByteArray, x = ⟨(Pl.be 1 p).toArray⟩ := ⟨_, rfl⟩
  obtain ⟨y, hy⟩ : ∃ x : ByteArray, x = ⟨(Pl.be 2 n).toArray⟩ := ⟨_, rfl⟩
  have sx : x.size ≤ 1 := by rw [hx, size_mk, Pl.be_length]; omega
  have sy : y.size ≤ 2 := by rw [hy, size_mk, Pl.be_length]; omega
  have hP : Puts p 1 x 0 := by rw [hx]; exact puts_good p 1 (by omega) (by decide) (by decide) (by omega)
  have hN : Puts n 2 y 0 := by rw [hy]; exact puts_good n 2 (by omega) (by decide) (by decide) (by omega)
  have hres : a ++ b ++ ⟨#[0, 0]⟩ ++ y ++ ⟨#[0, 0, 0]⟩ ++ x = Cs.ps16 a b n p := by rw [hx, hy]; rfl
  have HR := Lib.hid hres
  clear hres hx hy
  go_enter Try.func13, Try.ntmps13
  go_wp2_with (first | ((with_reducible refine (hP.to _).mono ?_); rintro e w1 ⟨rfl, h1⟩) | ((with_reducible refine (hN.to _).mono ?_); rintro e w2 ⟨rfl, h2⟩))
  go_ret2
  exact ⟨by rw [← HR.out]; rfl, bstep h1 h2⟩

/-- what Put says of a number, good or bad -/
theorem puts_either (n : Int) (m : Nat) (hn : n ≤ 9223372036854775807) : Puts n m ⟨#[]⟩ 1 ∨ ∃ v, Puts n m v 0 := by
  refine put_cases n m (P := fun v c => Puts n m v c → _) ?_ ?_ ?_ (put_any n m hn)
  · intro _ h; exact .inl h
  · intro x k _ _ _ _ _ h; exact .inl h
  · intro x k _ _ _ _ _ h; exact .inr ⟨_, h⟩

set_option maxHeartbeats 2000000 in
theorem pseudo_arg (a b : ByteArray) (n p : Int) (ha : a.size ≤ 140737488351232) (hb : b.size ≤ 140737488351232) (hn : n ≤ 9223372036854775807) (hp : p ≤ 9223372036854775807)
    (h : p < 0 ∨ 255 < p ∨ n < 0 ∨ 65535 < n ∨ a.size ≠ b.size ∨ (a.size ≠ 4 ∧ a.size ≠ 16)) (w : World) :
    Calls Try.prog 13 #[.string a, .string b, .int .i64 n, .int .i64 p] w fun e w' => e = .returned (.tuple #[.string ⟨#[]⟩, .int .i64 1]) ∧ Below w.heap.size w w' := by
  have hE : (∃ v, Puts p 1 ⟨#[]⟩ 1 ∧ (Puts n 2 ⟨#[]⟩ 1 ∨ Puts n 2 v 0)) ∨ (∃ v, Puts p 1 v 0 ∧ Puts n 2 ⟨#[]⟩ 1) ∨ (∃ u v, Puts p 1 u 0 ∧ Puts n 2 v 0 ∧ ((((a.size : Int) != (b.size : Int)) = true) ∨ (((a.size : Int) != (b.size : Int)) = false ∧ ((a.size : Int) == 4) = false ∧ ((a.size : Int) == 16) = false))) := by
    have hn2 : Puts n 2 ⟨#[]⟩ 1 ∨ ∃ v, Puts n 2 v 0 := puts_either n 2 hn
    have hp2 : Puts p 1 ⟨#[]⟩ 1 ∨ ∃ v, Puts p 1 v 0 := puts_either p 1 hp
    by_cases c1 : p < 0 ∨ 255 < p
    · have h1 : Puts p 1 ⟨#[]⟩ 1 := puts_bad p 1 hp (by decide) (by decide) (by omega)
      rcases hn2 with h2 | ⟨v, h2⟩
      · exact .inl ⟨⟨#[]⟩, h1, .inl h2⟩
      · exact .inl ⟨v, h1, .inr h2⟩
    · by_cases c2 : n < 0 ∨ 65535 < n
      · have h1 : Puts n 2 ⟨#[]⟩ 1 := puts_bad n 2 hn (by decide) (by decide) (by omega)
        rcases hp2 with h2 | ⟨v, h2⟩
        · exact .inl ⟨⟨#[]⟩, h2, .inl h1⟩
        · exact .inr (.inl ⟨v, h2, h1⟩)
      · obtain ⟨x, rfl⟩ := Int.eq_ofNat_of_zero_le (show 0 ≤ p by omega)
        obtain ⟨y, rfl⟩ := Int.eq_ofNat_of_zero_le (show 0 ≤ n by omega)
        refine .inr (.inr ⟨_, _, puts_good x 1 (by omega) (by decide) (by decide) (by omega), puts_good y 2 (by omega) (by decide) (by decide) (by omega), ?_⟩)
        by_cases c3 : a.size = b.size
        · exact .inr ⟨by rw [c3]; simp, beq_eq_false_iff_ne.2 (by omega), beq_eq_false_iff_ne.2 (by omega)⟩
        · exact .inl (bne_iff_ne.2 (by omega))
  clear h
  rcases hE with ⟨v, hP, hN | hN⟩ | ⟨v, hP, hN⟩ | ⟨u, v, hP, hN, hS | ⟨hS, h4, h16⟩⟩
  all_goals
    go_enter Try.func13, Try.ntmps13
    go_wp2_with (first | ((with_reducible refine (hP.to _).mono ?_); rintro e w1 ⟨rfl, h1⟩) | ((with_reducible refine (hN.to _).mono ?_); rintro e w2 ⟨rfl, h2⟩))
    go_ret2
    exact ⟨rfl, bstep h1 h2⟩
end Go.Proofs.Ytcheceapcimbmaa
