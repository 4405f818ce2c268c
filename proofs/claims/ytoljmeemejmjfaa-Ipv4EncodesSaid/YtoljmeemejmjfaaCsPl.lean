/-
  Plain laws on the Internet's sums, with no program in sight: a text's words, their sum by ones' addition. Conditions: none.
-/
import Derived.Test.YtoljmeemejmjfaaPl
namespace Go.Proofs.Ytoljmeemejmjfaa.Cs

/-- a text's word number k, two bytes each; what is lacking counts as a byte 0 -/
def wordAt (l : List UInt8) (k : Nat) : Nat := 256 * (l.getD (2 * k) 0).toNat + (l.getD (2 * k + 1) 0).toNat

theorem wordAt_le (l : List UInt8) (k : Nat) : wordAt l k ≤ 65535 := by
  have h1 := (l.getD (2 * k) 0).toNat_lt
  have h2 := (l.getD (2 * k + 1) 0).toNat_lt
  unfold wordAt; omega

/-- the first k words -/
def upto (l : List UInt8) (k : Nat) : List Nat := (List.range k).map (wordAt l)
theorem upto_zero (l : List UInt8) : upto l 0 = [] := rfl
theorem upto_succ (l : List UInt8) (k : Nat) : upto l (k + 1) = upto l k ++ [wordAt l k] := by
  simp [upto, List.range_succ]

/-- ones' addition -/
def plus (a b : Nat) : Nat := if 65536 ≤ a + b then a + b - 65535 else a + b
theorem plus_le {a b : Nat} (ha : a ≤ 65535) (hb : b ≤ 65535) : plus a b ≤ 65535 := by unfold plus; split <;> omega

/-- the sum of some words by ones' addition -/
def tot (ws : List Nat) : Nat := ws.foldl plus 0
theorem tot_nil : tot [] = 0 := rfl
theorem tot_snoc (ws : List Nat) (w : Nat) : tot (ws ++ [w]) = plus (tot ws) w := by simp [tot]

/-- what a plain sum comes to by ones' addition -/
def norm (n : Nat) : Nat := if n = 0 then 0 else (n - 1) % 65535 + 1
theorem norm_le (n : Nat) : norm n ≤ 65535 := by unfold norm; split <;> omega
theorem norm_plus (n w : Nat) (hw : w ≤ 65535) : plus (norm n) w = norm (n + w) := by
  unfold plus norm
  split <;> split <;> split <;> omega

theorem upto_tot (l : List UInt8) (k : Nat) : tot (upto l k) = norm ((upto l k).sum) := by
  induction k with
  | zero => rfl
  | succ k ih => rw [upto_succ, tot_snoc, ih, norm_plus _ _ (wordAt_le _ _)]; simp

/-- the plain sum of a text's words -/
def wsum : List UInt8 → Nat
  | [] => 0
  | [a] => 256 * a.toNat
  | a :: b :: r => 256 * a.toNat + b.toNat + wsum r

/-- how many words -/
def cnt (l : List UInt8) : Nat := (l.length + 1) / 2

theorem wordAt_cons (a b : UInt8) (r : List UInt8) (k : Nat) : wordAt (a :: b :: r) (k + 1) = wordAt r k := by
  unfold wordAt
  rw [show 2 * (k + 1) = 2 * k + 1 + 1 from by omega, show 2 * k + 1 + 1 + 1 = (2 * k + 1) + 1 + 1 from rfl]
  simp only [List.getD_cons_succ]

theorem upto_sum : ∀ (l : List UInt8), (upto l (cnt l)).sum = wsum l
  | [] => rfl
  | [a] => by simp [upto, cnt, wordAt, wsum]
  | a :: b :: r => by
    have ih := upto_sum r
    have hc : cnt (a :: b :: r) = cnt r + 1 := by simp only [cnt, List.length_cons]; omega
    have h0 : wordAt (a :: b :: r) 0 = 256 * a.toNat + b.toNat := by simp [wordAt]
    rw [hc, wsum, ← ih]
    unfold upto
    rw [List.range_succ_eq_map, List.map_cons, List.sum_cons, List.map_map, h0]
    congr 1

/-- the sum of a text -/
def sum (l : List UInt8) : Nat := 65535 - norm (wsum l)
theorem sum_le (l : List UInt8) : sum l ≤ 65535 := by unfold sum; omega
theorem sum_of (l : List UInt8) : sum l = 65535 - tot (upto l (cnt l)) := by rw [upto_tot, upto_sum]; rfl
end Go.Proofs.Ytoljmeemejmjfaa.Cs
