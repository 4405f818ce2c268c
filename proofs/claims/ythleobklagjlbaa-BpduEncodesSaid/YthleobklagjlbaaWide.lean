/-
  What octet.Wide computes. Condition: the text's length fits an int.
-/
import Derived.Test.YthleobklagjlbaaCases
import Derived.Test.YthleobklagjlbaaStands
import Derived.Test.YthleobklagjlbaaNumber
namespace Go.Proofs.Ythleobklagjlbaa
open Go.RowKit

theorem wide_arg (s : ByteArray) (a : Int) (h : a < 0) (w : World) :
    Calls Try.prog 15 #[.string s, .int .i64 a] w fun e w' => e = .returned (.tuple #[.int .u64 0, .int .i64 1]) ∧ w = w' := by
  go_enter Try.func15, Try.ntmps15
  go_wp2
  go_ret2
  exact ⟨rfl, rfl⟩

theorem wide_cut (s : ByteArray) (a : Int) (hs : s.size ≤ 9223372036854775807) (ha : 0 ≤ a) (h : (s.size : Int) < a ∨ (s.size : Int) - a < 8) (w : World) :
    Calls Try.prog 15 #[.string s, .int .i64 a] w fun e w' => e = .returned (.tuple #[.int .u64 0, .int .i64 2]) ∧ w = w' := by
  have H := Lib.hid h
  clear h
  go_enter Try.func15, Try.ntmps15
  go_wp2_with ((with_reducible refine (stands_no s a 8 hs ha H.out _).mono ?_); rintro e w' ⟨rfl, rfl⟩)
  go_ret2
  exact ⟨rfl, rfl⟩

theorem wide_ok (s : ByteArray) (a : Nat) (hs : s.size ≤ 9223372036854775807) (h : a + 8 ≤ s.size) (w : World) :
    Calls Try.prog 15 #[.string s, .int .i64 a] w fun e w' => e = .returned (.tuple #[.int .u64 (Pl.num ((s.data.toList.drop a).take 8)), .int .i64 0]) ∧ Below w.heap.size w w' := by
  go_enter Try.func15, Try.ntmps15
  go_wp2_with (first | ((with_reducible refine (stands_8 s a hs h _).mono ?_); rintro e w' ⟨rfl, rfl⟩) | ((with_reducible refine (number8 s a hs h _).mono ?_); rintro e w' ⟨rfl, hbel⟩))
  go_ret2
  exact ⟨rfl, hbel⟩

theorem wide_any (s : ByteArray) (a : Int) (hs : s.size ≤ 9223372036854775807) (w : World) :
    Calls Try.prog 15 #[.string s, .int .i64 a] w fun e w' => e = .returned (.tuple #[.int .u64 (wideV s a), .int .i64 (wideE s a)]) ∧ Below w.heap.size w w' :=
  wide_cases s a (P := fun v c => Calls Try.prog 15 #[.string s, .int .i64 a] w fun e w' => e = .returned (.tuple #[.int .u64 v, .int .i64 c]) ∧ Below w.heap.size w w')
    (fun h => (wide_arg s a h w).mono fun _ _ ⟨h1, h2⟩ => ⟨h1, h2 ▸ Below.refl _ _⟩)
    (fun h0 h => (wide_cut s a hs h0 h w).mono fun _ _ ⟨h1, h2⟩ => ⟨h1, h2 ▸ Below.refl _ _⟩)
    (fun x ea h => by subst ea; exact wide_ok s x hs h w)

/-- a contract as a fact that the walk does not look into -/
def Wides (s : ByteArray) (a : Int) (v c : Int) : Prop :=
  ∀ w : World, Calls Try.prog 15 #[.string s, .int .i64 a] w fun e w' => e = .returned (.tuple #[.int .u64 v, .int .i64 c]) ∧ Below w.heap.size w w'
theorem Wides.to {s : ByteArray} {a v c : Int} (h : Wides s a v c) (w : World) : Calls Try.prog 15 #[.string s, .int .i64 a] w fun e w' => e = .returned (.tuple #[.int .u64 v, .int .i64 c]) ∧ Below w.heap.size w w' := h w
theorem wides_ok (s : ByteArray) (a : Nat) (hs : s.size ≤ 9223372036854775807) (h : a + 8 ≤ s.size) : Wides s a (Pl.num ((s.data.toList.drop a).take 8)) 0 := wide_ok s a hs h

end Go.Proofs.Ythleobklagjlbaa
