/-
  What the reference's fits (siphonref01) tells. Condition: the text's length fits an int.
-/
import Derived.Test.YthpdfihmpoofaaaBase
namespace Go.Proofs.Ythpdfihmpoofaaa
open Go.RowKit

theorem fits_yes (s : ByteArray) (a n : Nat) (hs : s.size ≤ 9223372036854775807) (h : a + n ≤ s.size) (w : World) :
    Calls Try.prog 36 #[.string s, .int .i64 a, .int .i64 n] w fun e w' => e = .returned (.bool true) ∧ w = w' := by
  go_enter Try.func36, Try.ntmps36
  go_wp2
  go_ret
  exact ⟨ret_bool (decide_eq_true (by omega)), rfl⟩

theorem fits_8 (s : ByteArray) (a : Nat) (hs : s.size ≤ 9223372036854775807) (h : a + 8 ≤ s.size) (w : World) :
    Calls Try.prog 36 #[.string s, .int .i64 a, .int .i64 8] w fun e w' => e = .returned (.bool true) ∧ w = w' :=
  fits_yes s a 8 hs h w

theorem fits_no (s : ByteArray) (a n : Int) (hs : s.size ≤ 9223372036854775807) (ha : 0 ≤ a) (h : (s.size : Int) < a ∨ (s.size : Int) - a < n) (w : World) :
    Calls Try.prog 36 #[.string s, .int .i64 a, .int .i64 n] w fun e w' => e = .returned (.bool false) ∧ w = w' := by
  by_cases h1 : a ≤ s.size
  · have h2 : (s.size : Int) - a < n := by omega
    clear h
    go_enter Try.func36, Try.ntmps36
    go_wp2
    go_ret
    exact ⟨ret_bool (decide_eq_false (by omega)), rfl⟩
  · have h2 : (s.size : Int) < a := by omega
    clear h h1
    go_enter Try.func36, Try.ntmps36
    go_wp2
    go_ret
    exact ⟨rfl, rfl⟩

end Go.Proofs.Ythpdfihmpoofaaa
