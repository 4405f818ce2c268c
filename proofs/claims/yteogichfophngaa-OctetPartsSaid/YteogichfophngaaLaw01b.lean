/-
  The walk of 'OctetWidths': it returns true and leaves what was there alone. Conditions: the text's length fits an int, the numbers are of their kind.
-/
import Derived.Test.YteogichfophngaaLaw01
import Derived.BigQuiet
import Derived.Deep.QuietTactic
namespace Go.Proofs.Yteogichfophngaa
open Go.RowKit

/-- a contract as a fact that the walk does not look into -/
def Puts (n m : Int) (v : ByteArray) (c : Int) : Prop :=
  ∀ w : World, Calls Try.prog 13 #[.int .i64 n, .int .i64 m] w fun e w' => e = .returned (.tuple #[.string v, .int .i64 c]) ∧ Below w.heap.size w w'
def Gets (s : ByteArray) (a n : Int) (v c : Int) : Prop :=
  ∀ w : World, Calls Try.prog 10 #[.string s, .int .i64 a, .int .i64 n] w fun e w' => e = .returned (.tuple #[.int .i64 v, .int .i64 c]) ∧ Below w.heap.size w w'

theorem Puts.to {n m : Int} {v : ByteArray} {c : Int} (h : Puts n m v c) (w : World) : Calls Try.prog 13 #[.int .i64 n, .int .i64 m] w fun e w' => e = .returned (.tuple #[.string v, .int .i64 c]) ∧ Below w.heap.size w w' := h w
theorem Gets.to {s : ByteArray} {a n v c : Int} (h : Gets s a n v c) (w : World) : Calls Try.prog 10 #[.string s, .int .i64 a, .int .i64 n] w fun e w' => e = .returned (.tuple #[.int .i64 v, .int .i64 c]) ∧ Below w.heap.size w w' := h w

theorem be_top (k x : Nat) (h : x < 256 ^ k) : Pl.be (k + 1) x = 0 :: Pl.be k x := by
  have h1 := Pl.be_add 1 k x
  rw [Nat.add_comm] at h1
  rw [h1, Nat.div_eq_of_lt h]
  rfl

theorem byte_at (s : ByteArray) (k : Nat) (h : k < s.size) : Pl.num ((s.data.toList.drop k).take 1) = (s[k]'h).toNat := by
  have e : s.data.toList.length = s.size := by rw [Array.length_toList]; rfl
  rw [List.drop_eq_getElem_cons (by omega)]
  simp [Pl.num_one]
  rfl

theorem wrap64_byte' (b : UInt8) : wrap64 (b.toNat : Int) = (b.toNat : Int) := IntWalk.wrap64_in _ (by have := b.toNat_lt; omega)

set_option maxHeartbeats 1000000 in
theorem octetWidths_walk (n m : Int) (s : ByteArray) (a : Int) (hs : s.size ≤ 9223372036854775807) (hn : n ≤ 9223372036854775807) (hm1 : -9223372036854775808 ≤ m) (w : World) :
    Calls Try.prog 7 #[.agg #[.int .i64 n, .int .i64 m, .string s, .int .i64 a]] w fun e w' => e = .returned (.bool true) ∧ Below w.heap.size w w' := by
  have hput : Puts n m ⟨#[]⟩ 1 ∨ (m = 4 ∧ ∃ v, Puts n 4 v 0) ∨ (∃ v, 1 ≤ m ∧ m < 4 ∧ v.size ≤ 4 ∧ Puts n m v 0 ∧ Puts n (m + 1) (⟨#[0]⟩ ++ v) 0) := by
    have h0 : Puts n m (putV n m) (putE n m) := put_any n m hn
    refine put_cases n m (P := fun v c => Puts n m v c → _) ?_ ?_ ?_ h0
    · intro _ h; exact .inl h
    · intro x k _ _ _ _ _ h; exact .inl h
    · intro x k ex ek h1 h4 hx h
      subst ex ek
      by_cases hk4 : k = 4
      · subst hk4; exact .inr (.inl ⟨rfl, _, h⟩)
      · refine .inr (.inr ⟨_, by omega, by omega, by have := Pl.be_length k x; simp [ByteArray.size]; omega, h, ?_⟩)
        have h2 : x < 256 ^ (k + 1) := by rw [Nat.pow_succ]; omega
        have h3 : Puts x (k + 1 : Nat) ⟨(Pl.be (k + 1) x).toArray⟩ 0 := put_ok x (k + 1) (by omega) (by omega) h2 (by omega)
        rw [be_top k x hx, show (0 :: Pl.be k x) = [0] ++ Pl.be k x from rfl, ← ba_append] at h3
        exact h3
  have hget : (a < 0 ∧ Gets s a 1 0 1) ∨ (0 ≤ a ∧ (s.size : Int) ≤ a ∧ Gets s a 1 0 2) ∨ (∃ k : Nat, a = k ∧ ∃ hk : k < s.size, Gets s k 1 (wrap64 (s[k]'hk).toNat) 0) := by
    by_cases h1 : a < 0
    · exact .inl ⟨h1, fun w => (get_arg s a 1 (.inl h1) w).mono fun _ _ ⟨h1, h2⟩ => ⟨h1, h2 ▸ Below.refl _ _⟩⟩
    · by_cases h2 : (s.size : Int) ≤ a
      · exact .inr (.inl ⟨by omega, h2, fun w => (get_cut s a 1 hs (by omega) (by omega) (by omega) (by omega) w).mono fun _ _ ⟨h1, h2⟩ => ⟨h1, h2 ▸ Below.refl _ _⟩⟩)
      · obtain ⟨k, rfl⟩ := Int.eq_ofNat_of_zero_le (show 0 ≤ a by omega)
        have hk : k < s.size := by omega
        refine .inr (.inr ⟨k, rfl, hk, fun w => ?_⟩)
        have h := get_ok s k 1 hs (by omega) (by omega) (by omega) w
        rw [byte_at s k hk] at h
        rw [wrap64_byte']
        exact h
  rcases hput with hP | ⟨rfl, v, hP⟩ | ⟨v, hm, hm4, hv, hP, hP2⟩ <;> rcases hget with ⟨ha, hG⟩ | ⟨ha, ha2, hG⟩ | ⟨k, rfl, hk, hG⟩
  all_goals
    go_enter Try.func7, Try.ntmps7
    go_wp2_with fail
    go_quiet (fail)
    go_wp2_with (first | ((with_reducible refine (hP.to _).mono ?_); rintro e w1 ⟨rfl, h1⟩) | ((with_reducible refine (hP2.to _).mono ?_); rintro e w2 ⟨rfl, h2⟩) | ((with_reducible refine (hG.to _).mono ?_); rintro e w3 ⟨rfl, h3⟩) | ((with_reducible refine (live_any _).mono ?_); rintro e w4 ⟨rfl, h4⟩))
    go_ret
    first | exact ⟨rfl, bstep (bstep (bstep (bbox _ _ _) h1) h3) h4⟩ | exact ⟨rfl, bstep (bstep (bstep (bstep (bbox _ _ _) h1) h2) h3) h4⟩
end Go.Proofs.Yteogichfophngaa
