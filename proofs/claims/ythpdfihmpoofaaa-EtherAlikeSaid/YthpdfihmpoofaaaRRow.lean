/-
  The cells that the reference's Put and Eight write, round by round. No program in sight. Conditions: none.
-/
import Derived.Test.YthpdfihmpoofaaaBase
namespace Go.Proofs.Ythpdfihmpoofaaa
open Go.RowKit

/-- the cells where j bytes are still to come -/
def rowB (m n j : Nat) : List Value := ((List.replicate j 0 ++ (Pl.be m n).drop j).map fun b : UInt8 => Value.int .u8 b.toNat)

theorem rowB_start (m n : Nat) : (madeCells #[Value.int .u8 0] m).toList = rowB m n m := by
  simp only [rowB, madeCells]
  rw [List.drop_of_length_le (by rw [Pl.be_length]; omega), List.append_nil]
  apply List.ext_getElem?
  intro j
  by_cases h : j < m
  · simp [h, Nat.mod_one]
  · simp [h]

theorem rowB_get (m n j : Nat) : (rowB m n (j + 1))[j]? = some (.int .u8 0) := by
  simp only [rowB, List.getElem?_map]
  rw [List.getElem?_append_left (by simp)]
  simp

theorem rowB_set (m n j : Nat) (h : j < m) : (rowB m n (j + 1)).set j (.int .u8 (n / 256 ^ (m - 1 - j) % 256 : Nat)) = rowB m n j := by
  have hl := Pl.be_length m n
  have hg := Pl.be_get m n j h
  have hk : j < (Pl.be m n).length := by omega
  have ek : (Pl.be m n)[j] = UInt8.ofNat (n / 256 ^ (m - 1 - j) % 256) := by
    rw [List.getElem?_eq_getElem hk] at hg
    exact Option.some.inj hg
  simp only [rowB]
  rw [List.drop_eq_getElem_cons hk, ek, List.replicate_succ', List.append_assoc, List.map_append, List.map_append, List.set_append_right _ _ (by simp)]
  simp

theorem rowB_end (m n : Nat) : rowB m n 0 = (Pl.be m n).map fun b : UInt8 => Value.int .u8 b.toNat := by
  simp [rowB]

end Go.Proofs.Ythpdfihmpoofaaa
