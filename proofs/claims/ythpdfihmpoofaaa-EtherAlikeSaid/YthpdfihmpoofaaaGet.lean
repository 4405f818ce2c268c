/-
  What octet.Get computes. Condition: the text's length fits an int.
-/
import Derived.Test.YthpdfihmpoofaaaCases
import Derived.Test.YthpdfihmpoofaaaStands
import Derived.Test.YthpdfihmpoofaaaNumber
namespace Go.Proofs.Ythpdfihmpoofaaa
open Go.RowKit

theorem get_arg (s : ByteArray) (a n : Int) (h : a < 0 ∨ n < 1 ∨ 4 < n) (w : World) :
    Calls Try.prog 19 #[.string s, .int .i64 a, .int .i64 n] w fun e w' => e = .returned (.tuple #[.int .i64 0, .int .i64 1]) ∧ w = w' := by
  by_cases h1 : a < 0
  · clear h
    go_enter Try.func19, Try.ntmps19
    go_wp2
    go_ret2
    exact ⟨rfl, rfl⟩
  · have h1' : 0 ≤ a := by omega
    by_cases h2 : n < 1
    · clear h h1
      go_enter Try.func19, Try.ntmps19
      go_wp2
      go_ret2
      exact ⟨rfl, rfl⟩
    · have h2' : 1 ≤ n := by omega
      have h3 : 4 < n := by omega
      clear h h1 h2
      go_enter Try.func19, Try.ntmps19
      go_wp2
      go_ret2
      exact ⟨rfl, rfl⟩

theorem get_cut (s : ByteArray) (a n : Int) (hs : s.size ≤ 9223372036854775807) (ha : 0 ≤ a) (h1 : 1 ≤ n) (h4 : n ≤ 4) (h : (s.size : Int) < a ∨ (s.size : Int) - a < n) (w : World) :
    Calls Try.prog 19 #[.string s, .int .i64 a, .int .i64 n] w fun e w' => e = .returned (.tuple #[.int .i64 0, .int .i64 2]) ∧ w = w' := by
  have H := Lib.hid h
  clear h
  go_enter Try.func19, Try.ntmps19
  go_wp2_with ((with_reducible refine (stands_no s a n hs ha H.out _).mono ?_); rintro e w' ⟨rfl, rfl⟩)
  go_ret2
  exact ⟨rfl, rfl⟩

theorem get_ok (s : ByteArray) (a n : Nat) (hs : s.size ≤ 9223372036854775807) (h1 : 1 ≤ n) (h4 : n ≤ 4) (h : a + n ≤ s.size) (w : World) :
    Calls Try.prog 19 #[.string s, .int .i64 a, .int .i64 n] w fun e w' => e = .returned (.tuple #[.int .i64 (Pl.num ((s.data.toList.drop a).take n)), .int .i64 0]) ∧ Below w.heap.size w w' := by
  have hb := num4 (s.data.toList.drop a) n h4
  go_enter Try.func19, Try.ntmps19
  go_wp2_with (first | ((with_reducible refine (stands_yes s a n hs h _).mono ?_); rintro e w' ⟨rfl, rfl⟩) | ((with_reducible refine (number_any s a n hs h (by omega) _).mono ?_); rintro e w' ⟨rfl, hbel⟩))
  go_ret2
  exact ⟨by first | rfl | (simp; done) | skip, hbel⟩

theorem get_any (s : ByteArray) (a n : Int) (hs : s.size ≤ 9223372036854775807) (w : World) :
    Calls Try.prog 19 #[.string s, .int .i64 a, .int .i64 n] w fun e w' => e = .returned (.tuple #[.int .i64 (getV s a n), .int .i64 (getE s a n)]) ∧ Below w.heap.size w w' :=
  get_cases s a n (P := fun v c => Calls Try.prog 19 #[.string s, .int .i64 a, .int .i64 n] w fun e w' => e = .returned (.tuple #[.int .i64 v, .int .i64 c]) ∧ Below w.heap.size w w')
    (fun h => (get_arg s a n h w).mono fun _ _ ⟨h1, h2⟩ => ⟨h1, h2 ▸ Below.refl _ _⟩)
    (fun h0 h1 h4 h => (get_cut s a n hs h0 h1 h4 h w).mono fun _ _ ⟨h1, h2⟩ => ⟨h1, h2 ▸ Below.refl _ _⟩)
    (fun x m ea en h1 h4 h => by subst ea en; exact get_ok s x m hs h1 h4 h w)

/-- a contract as a fact that the walk does not look into -/
def Gets (s : ByteArray) (a n : Int) (v c : Int) : Prop :=
  ∀ w : World, Calls Try.prog 19 #[.string s, .int .i64 a, .int .i64 n] w fun e w' => e = .returned (.tuple #[.int .i64 v, .int .i64 c]) ∧ Below w.heap.size w w'
theorem Gets.to {s : ByteArray} {a n v c : Int} (h : Gets s a n v c) (w : World) : Calls Try.prog 19 #[.string s, .int .i64 a, .int .i64 n] w fun e w' => e = .returned (.tuple #[.int .i64 v, .int .i64 c]) ∧ Below w.heap.size w w' := h w
theorem gets_cut (s : ByteArray) (a n : Int) (hs : s.size ≤ 9223372036854775807) (ha : 0 ≤ a) (h1 : 1 ≤ n) (h4 : n ≤ 4) (h : (s.size : Int) < a ∨ (s.size : Int) - a < n) : Gets s a n 0 2 := fun w =>
  (get_cut s a n hs ha h1 h4 h w).mono fun _ _ ⟨h1, h2⟩ => ⟨h1, h2 ▸ Below.refl _ _⟩
theorem gets_ok (s : ByteArray) (a n : Nat) (hs : s.size ≤ 9223372036854775807) (h1 : 1 ≤ n) (h4 : n ≤ 4) (h : a + n ≤ s.size) : Gets s a n (Pl.num ((s.data.toList.drop a).take n)) 0 := get_ok s a n hs h1 h4 h

end Go.Proofs.Ythpdfihmpoofaaa
