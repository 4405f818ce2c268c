/-
  The answers of Get, Wide, Cut and Put in one form each, and how they part. No program in sight. Conditions: none.
-/
import Derived.Test.YthpdfihmpoofaaaBase
namespace Go.Proofs.Ythpdfihmpoofaaa
open Go.RowKit

def getV (s : ByteArray) (a n : Int) : Int := if a < 0 ∨ n < 1 ∨ 4 < n then 0 else if (s.size : Int) < a ∨ (s.size : Int) - a < n then 0 else (Pl.num ((s.data.toList.drop a.toNat).take n.toNat) : Int)

def getE (s : ByteArray) (a n : Int) : Int := if a < 0 ∨ n < 1 ∨ 4 < n then 1 else if (s.size : Int) < a ∨ (s.size : Int) - a < n then 2 else 0

theorem get_cases (s : ByteArray) (a n : Int) {P : Int → Int → Prop} (h1 : a < 0 ∨ n < 1 ∨ 4 < n → P 0 1) (h2 : 0 ≤ a → 1 ≤ n → n ≤ 4 → ((s.size : Int) < a ∨ (s.size : Int) - a < n) → P 0 2)
    (h3 : ∀ x m : Nat, a = x → n = m → 1 ≤ m → m ≤ 4 → x + m ≤ s.size → P (Pl.num ((s.data.toList.drop x).take m)) 0) : P (getV s a n) (getE s a n) := by
  unfold getV getE
  by_cases c1 : a < 0 ∨ n < 1 ∨ 4 < n
  · rw [if_pos c1, if_pos c1]; exact h1 c1
  · rw [if_neg c1, if_neg c1]
    by_cases c2 : (s.size : Int) < a ∨ (s.size : Int) - a < n
    · rw [if_pos c2, if_pos c2]; exact h2 (by omega) (by omega) (by omega) c2
    · rw [if_neg c2, if_neg c2]
      obtain ⟨x, rfl⟩ := Int.eq_ofNat_of_zero_le (show 0 ≤ a by omega)
      obtain ⟨m, rfl⟩ := Int.eq_ofNat_of_zero_le (show 0 ≤ n by omega)
      exact h3 x m rfl rfl (by omega) (by omega) (by omega)

def wideV (s : ByteArray) (a : Int) : Int := if a < 0 then 0 else if (s.size : Int) < a ∨ (s.size : Int) - a < 8 then 0 else (Pl.num ((s.data.toList.drop a.toNat).take 8) : Int)

def wideE (s : ByteArray) (a : Int) : Int := if a < 0 then 1 else if (s.size : Int) < a ∨ (s.size : Int) - a < 8 then 2 else 0

theorem wide_cases (s : ByteArray) (a : Int) {P : Int → Int → Prop} (h1 : a < 0 → P 0 1) (h2 : 0 ≤ a → ((s.size : Int) < a ∨ (s.size : Int) - a < 8) → P 0 2)
    (h3 : ∀ x : Nat, a = x → x + 8 ≤ s.size → P (Pl.num ((s.data.toList.drop x).take 8)) 0) : P (wideV s a) (wideE s a) := by
  unfold wideV wideE
  by_cases c1 : a < 0
  · rw [if_pos c1, if_pos c1]; exact h1 c1
  · rw [if_neg c1, if_neg c1]
    by_cases c2 : (s.size : Int) < a ∨ (s.size : Int) - a < 8
    · rw [if_pos c2, if_pos c2]; exact h2 (by omega) c2
    · rw [if_neg c2, if_neg c2]
      obtain ⟨x, rfl⟩ := Int.eq_ofNat_of_zero_le (show 0 ≤ a by omega)
      exact h3 x rfl (by omega)

def cutV (s : ByteArray) (a n : Int) : ByteArray := if a < 0 ∨ n < 0 then ⟨#[]⟩ else if (s.size : Int) < a ∨ (s.size : Int) - a < n then ⟨#[]⟩ else s.extract a.toNat (a.toNat + n.toNat)

def cutE (s : ByteArray) (a n : Int) : Int := if a < 0 ∨ n < 0 then 1 else if (s.size : Int) < a ∨ (s.size : Int) - a < n then 2 else 0

theorem cut_cases (s : ByteArray) (a n : Int) {P : ByteArray → Int → Prop} (h1 : a < 0 ∨ n < 0 → P ⟨#[]⟩ 1) (h2 : 0 ≤ a → 0 ≤ n → ((s.size : Int) < a ∨ (s.size : Int) - a < n) → P ⟨#[]⟩ 2)
    (h3 : ∀ x m : Nat, a = x → n = m → x + m ≤ s.size → P (s.extract x (x + m)) 0) : P (cutV s a n) (cutE s a n) := by
  unfold cutV cutE
  by_cases c1 : a < 0 ∨ n < 0
  · rw [if_pos c1, if_pos c1]; exact h1 c1
  · rw [if_neg c1, if_neg c1]
    by_cases c2 : (s.size : Int) < a ∨ (s.size : Int) - a < n
    · rw [if_pos c2, if_pos c2]; exact h2 (by omega) (by omega) c2
    · rw [if_neg c2, if_neg c2]
      obtain ⟨x, rfl⟩ := Int.eq_ofNat_of_zero_le (show 0 ≤ a by omega)
      obtain ⟨m, rfl⟩ := Int.eq_ofNat_of_zero_le (show 0 ≤ n by omega)
      exact h3 x m rfl rfl (by omega)

def putV (n m : Int) : ByteArray := if m < 1 ∨ 4 < m ∨ n < 0 then ⟨#[]⟩ else if 256 ^ m.toNat ≤ n.toNat then ⟨#[]⟩ else ⟨(Pl.be m.toNat n.toNat).toArray⟩

def putE (n m : Int) : Int := if m < 1 ∨ 4 < m ∨ n < 0 then 1 else if 256 ^ m.toNat ≤ n.toNat then 1 else 0

theorem put_cases (n m : Int) {P : ByteArray → Int → Prop} (h1 : m < 1 ∨ 4 < m ∨ n < 0 → P ⟨#[]⟩ 1) (h2 : ∀ x k : Nat, n = x → m = k → 1 ≤ k → k ≤ 4 → 256 ^ k ≤ x → P ⟨#[]⟩ 1)
    (h3 : ∀ x k : Nat, n = x → m = k → 1 ≤ k → k ≤ 4 → x < 256 ^ k → P ⟨(Pl.be k x).toArray⟩ 0) : P (putV n m) (putE n m) := by
  unfold putV putE
  by_cases c1 : m < 1 ∨ 4 < m ∨ n < 0
  · rw [if_pos c1, if_pos c1]; exact h1 c1
  · rw [if_neg c1, if_neg c1]
    obtain ⟨x, rfl⟩ := Int.eq_ofNat_of_zero_le (show 0 ≤ n by omega)
    obtain ⟨k, rfl⟩ := Int.eq_ofNat_of_zero_le (show 0 ≤ m by omega)
    simp only [Int.toNat_natCast]
    by_cases c2 : 256 ^ k ≤ x
    · rw [if_pos c2, if_pos c2]; exact h2 x k rfl rfl (by omega) (by omega) c2
    · rw [if_neg c2, if_neg c2]; exact h3 x k rfl rfl (by omega) (by omega) (by omega)

end Go.Proofs.Ythpdfihmpoofaaa
