/-
  Plain laws on numbers in bytes, with no program in sight: 'num' (the number of some bytes, the greatest first) and 'be' (the bytes of a number). Conditions: none.
-/
namespace Go.Proofs.Ythpdfihmpoofaaa.Pl

/-- the number that some bytes are -/
def num (l : List UInt8) : Nat := l.foldl (fun n b => 256 * n + b.toNat) 0

/-- so many bytes of a number -/
def be : Nat → Nat → List UInt8
  | 0, _ => []
  | w + 1, n => be w (n / 256) ++ [UInt8.ofNat (n % 256)]

theorem num_nil : num [] = 0 := rfl
theorem num_snoc (l : List UInt8) (b : UInt8) : num (l ++ [b]) = 256 * num l + b.toNat := by
  simp [num, List.foldl_append]

theorem num_cons_go (l : List UInt8) (n : Nat) : l.foldl (fun n b => 256 * n + b.toNat) n = n * 256 ^ l.length + num l := by
  induction l generalizing n with
  | nil => simp [num]
  | cons b l ih =>
    simp only [List.foldl_cons, num, List.length_cons]
    rw [ih, ih (256 * 0 + b.toNat), Nat.pow_succ, Nat.add_mul, Nat.mul_zero, Nat.zero_add, Nat.mul_comm 256 n, Nat.mul_assoc, Nat.mul_comm (256 ^ l.length) 256, Nat.add_assoc]

theorem num_append (a b : List UInt8) : num (a ++ b) = num a * 256 ^ b.length + num b := by
  conv => lhs; unfold num
  rw [List.foldl_append, num_cons_go b]
  rfl

theorem num_cons (b : UInt8) (l : List UInt8) : num (b :: l) = b.toNat * 256 ^ l.length + num l := by
  have h := num_append [b] l
  simp only [List.singleton_append] at h
  rw [h]
  simp [num]

theorem num_one (b : UInt8) : num [b] = b.toNat := by simp [num]

theorem num_lt (l : List UInt8) : num l < 256 ^ l.length := by
  induction l with
  | nil => simp [num]
  | cons b l ih =>
    rw [num_cons, List.length_cons, Nat.pow_succ]
    have hb := b.toNat_lt
    have h1 : b.toNat * 256 ^ l.length ≤ 255 * 256 ^ l.length := Nat.mul_le_mul_right _ (by omega)
    omega

theorem be_zero (n : Nat) : be 0 n = [] := rfl
theorem be_succ (w n : Nat) : be (w + 1) n = be w (n / 256) ++ [UInt8.ofNat (n % 256)] := rfl

theorem be_length (w n : Nat) : (be w n).length = w := by
  induction w generalizing n with
  | zero => rfl
  | succ w ih => simp [be_succ, ih]

theorem num_be (w n : Nat) : num (be w n) = n % 256 ^ w := by
  induction w generalizing n with
  | zero => simp [be_zero, num_nil, Nat.mod_one]
  | succ w ih =>
    rw [be_succ, num_snoc, ih, Nat.pow_succ, Nat.mul_comm (256 ^ w) 256]
    have h : (UInt8.ofNat (n % 256)).toNat = n % 256 := by simp
    rw [h, Nat.mod_mul]
    omega

theorem num_be_of_lt {w n : Nat} (h : n < 256 ^ w) : num (be w n) = n := by
  rw [num_be, Nat.mod_eq_of_lt h]

theorem be_num (l : List UInt8) : be l.length (num l) = l := by
  suffices h : ∀ (k : Nat) (l : List UInt8), l.length = k → be k (num l) = l from h _ l rfl
  intro k
  induction k with
  | zero => intro l hl; simp [List.length_eq_zero_iff.1 hl, be_zero]
  | succ k ih =>
    intro l hl
    obtain ⟨a, b, rfl⟩ : ∃ a b, l = a ++ [b] := by
      have hne : l ≠ [] := by intro h; simp [h] at hl
      exact ⟨l.dropLast, l.getLast hne, (List.dropLast_concat_getLast hne).symm⟩
    have ha : a.length = k := by simpa using hl
    rw [be_succ, num_snoc]
    have hb := b.toNat_lt
    have h1 : (256 * num a + b.toNat) / 256 = num a := by omega
    have h2 : (256 * num a + b.toNat) % 256 = b.toNat := by omega
    rw [h1, h2, ih a ha]
    simp

theorem be_num' {w : Nat} {l : List UInt8} (h : l.length = w) : be w (num l) = l := by
  subst h; exact be_num l

/-- the j-th of a number's bytes -/
theorem be_get (w n j : Nat) (h : j < w) : (be w n)[j]? = some (UInt8.ofNat (n / 256 ^ (w - 1 - j) % 256)) := by
  induction w generalizing n with
  | zero => omega
  | succ w ih =>
    rw [be_succ]
    by_cases hj : j < w
    · rw [List.getElem?_append_left (by rw [be_length]; exact hj), ih _ hj, Nat.div_div_eq_div_mul, ← Nat.pow_succ']
      congr 6
      omega
    · have : j = w := by omega
      subst this
      rw [List.getElem?_append_right (by rw [be_length]; omega), be_length]
      simp

/-- a number with its bytes shifted away -/
theorem be_mod (w n : Nat) : be w (n % 256 ^ w) = be w n := by
  rw [← num_be w n]
  exact be_num' (be_length _ _)

theorem be_inj {w m n : Nat} (hm : m < 256 ^ w) (hn : n < 256 ^ w) (h : be w m = be w n) : m = n := by
  rw [← num_be_of_lt hm, ← num_be_of_lt hn, h]

theorem num_inj {a b : List UInt8} (hl : a.length = b.length) (h : num a = num b) : a = b := by
  rw [← be_num a, ← be_num b, hl, h]

theorem be_add (a b n : Nat) : be (a + b) n = be a (n / 256 ^ b) ++ be b n := by
  induction b generalizing n with
  | zero => simp [be_zero]
  | succ b ih =>
    rw [← Nat.add_assoc, be_succ, ih, be_succ, List.append_assoc, Nat.div_div_eq_div_mul, ← Nat.pow_succ']

end Go.Proofs.Ythpdfihmpoofaaa.Pl
