/-
  What octet.Put computes. Condition: the number is one of its kind.
-/
import Derived.Test.YthpdfihmpoofaaaCases
import Derived.Test.YthpdfihmpoofaaaBytes
namespace Go.Proofs.Ythpdfihmpoofaaa
open Go.RowKit

theorem put_arg (n m : Int) (hm : m < 1 ∨ 4 < m ∨ n < 0) (w : World) :
    Calls Try.prog 23 #[.int .i64 n, .int .i64 m] w fun e w' => e = .returned (.tuple #[.string ⟨#[]⟩, .int .i64 1]) ∧ w = w' := by
  by_cases h1 : m < 1
  · clear hm
    go_enter Try.func23, Try.ntmps23
    go_wp2
    go_ret2
    exact ⟨rfl, rfl⟩
  · have h1' : 1 ≤ m := by omega
    by_cases h2 : 4 < m
    · clear hm h1
      go_enter Try.func23, Try.ntmps23
      go_wp2
      go_ret2
      exact ⟨rfl, rfl⟩
    · have h2' : m ≤ 4 := by omega
      have h3 : n < 0 := by omega
      clear hm h1 h2
      go_enter Try.func23, Try.ntmps23
      go_wp2
      go_ret2
      exact ⟨rfl, rfl⟩

theorem put_ok (n m : Nat) (h1 : 1 ≤ m) (h4 : m ≤ 4) (h : n < 256 ^ m) (hn : n ≤ 9223372036854775807) (w : World) :
    Calls Try.prog 23 #[.int .i64 n, .int .i64 m] w fun e w' => e = .returned (.tuple #[.string ⟨(Pl.be m n).toArray⟩, .int .i64 0]) ∧ Below w.heap.size w w' := by
  have hq : ((n : Int) / 2 ^ (8 * m) != 0) = false := by rw [shr_nat, Nat.div_eq_of_lt h]; rfl
  have d1 : decide ((m : Int) < 1) = false := decide_eq_false (by omega)
  have d2 : decide (4 < (m : Int)) = false := decide_eq_false (by omega)
  clear h
  go_enter Try.func23, Try.ntmps23
  go_wp2_with ((with_reducible refine (bytes_any n m (by omega) _).mono ?_); rintro e w' ⟨rfl, hbel⟩)
  go_ret2
  exact ⟨rfl, hbel⟩

theorem put_big (n m : Nat) (h1 : 1 ≤ m) (h4 : m ≤ 4) (h : 256 ^ m ≤ n) (w : World) :
    Calls Try.prog 23 #[.int .i64 n, .int .i64 m] w fun e w' => e = .returned (.tuple #[.string ⟨#[]⟩, .int .i64 1]) ∧ w = w' := by
  have hq : ((n : Int) / 2 ^ (8 * m) != 0) = true := by
    have hp : 0 < n / 256 ^ m := Nat.div_pos h (Nat.pow_pos (by decide))
    rw [shr_nat, bne_iff_ne]; omega
  have d1 : decide ((m : Int) < 1) = false := decide_eq_false (by omega)
  have d2 : decide (4 < (m : Int)) = false := decide_eq_false (by omega)
  clear h
  go_enter Try.func23, Try.ntmps23
  go_wp2
  go_ret2
  exact ⟨rfl, rfl⟩

theorem put_any (n m : Int) (hn : n ≤ 9223372036854775807) (w : World) :
    Calls Try.prog 23 #[.int .i64 n, .int .i64 m] w fun e w' => e = .returned (.tuple #[.string (putV n m), .int .i64 (putE n m)]) ∧ Below w.heap.size w w' :=
  put_cases n m (P := fun v c => Calls Try.prog 23 #[.int .i64 n, .int .i64 m] w fun e w' => e = .returned (.tuple #[.string v, .int .i64 c]) ∧ Below w.heap.size w w')
    (fun h => (put_arg n m h w).mono fun _ _ ⟨h1, h2⟩ => ⟨h1, h2 ▸ Below.refl _ _⟩)
    (fun x k ex ek h1 h4 h => by subst ex ek; exact (put_big x k h1 h4 h w).mono fun _ _ ⟨h1, h2⟩ => ⟨h1, h2 ▸ Below.refl _ _⟩)
    (fun x k ex ek h1 h4 h => by subst ex ek; exact put_ok x k h1 h4 h (by omega) w)

/-- a contract as a fact that the walk does not look into -/
def Puts (n m : Int) (v : ByteArray) (c : Int) : Prop :=
  ∀ w : World, Calls Try.prog 23 #[.int .i64 n, .int .i64 m] w fun e w' => e = .returned (.tuple #[.string v, .int .i64 c]) ∧ Below w.heap.size w w'
theorem Puts.to {n m : Int} {v : ByteArray} {c : Int} (h : Puts n m v c) (w : World) : Calls Try.prog 23 #[.int .i64 n, .int .i64 m] w fun e w' => e = .returned (.tuple #[.string v, .int .i64 c]) ∧ Below w.heap.size w w' := h w
theorem puts_bad (n : Int) (m : Nat) (hn : n ≤ 9223372036854775807) (h1 : 1 ≤ m) (h4 : m ≤ 4) (h : n < 0 ∨ (256 : Int) ^ m ≤ n) : Puts n m ⟨#[]⟩ 1 := fun w => by
  rcases h with h | h
  · exact (put_arg n m (.inr (.inr h)) w).mono fun _ _ ⟨h1, h2⟩ => ⟨h1, h2 ▸ Below.refl _ _⟩
  · have h0 : (0 : Int) ≤ 256 ^ m := Int.le_of_lt (Int.pow_pos (by decide))
    obtain ⟨x, rfl⟩ := Int.eq_ofNat_of_zero_le (show 0 ≤ n by omega)
    have h2 : 256 ^ m ≤ x := by
      have e : ((256 ^ m : Nat) : Int) = 256 ^ m := by rw [Int.natCast_pow]; rfl
      omega
    exact (put_big x m h1 h4 h2 w).mono fun _ _ ⟨h1, h2⟩ => ⟨h1, h2 ▸ Below.refl _ _⟩
theorem puts_good (x m : Nat) (hx : x ≤ 9223372036854775807) (h1 : 1 ≤ m) (h4 : m ≤ 4) (h : x < 256 ^ m) : Puts x m ⟨(Pl.be m x).toArray⟩ 0 := fun w => put_ok x m h1 h4 h hx w

end Go.Proofs.Ythpdfihmpoofaaa
