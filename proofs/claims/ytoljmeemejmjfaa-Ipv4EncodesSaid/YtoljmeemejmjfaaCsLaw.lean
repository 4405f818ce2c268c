/-
  Plain laws on the Internet's sums, with no program in sight: a text with its sum put in is right, and has it put in again; the order of words turns nothing; a bit turns the sum. Conditions: those of each law.
-/
import Derived.Test.YtoljmeemejmjfaaFillPl
namespace Go.Proofs.Ytoljmeemejmjfaa.Cs

theorem wsum_append : ∀ (a b : List UInt8), a.length % 2 = 0 → wsum (a ++ b) = wsum a + wsum b
  | [], b, _ => by simp [wsum]
  | [x], b, h => by simp at h
  | x :: y :: r, b, h => by
    have ih := wsum_append r b (by simp only [List.length_cons] at h; omega)
    simp only [List.cons_append, wsum, ih]
    omega

theorem wsum_be2 (c : Nat) (h : c < 65536) : wsum (Pl.be 2 c) = c := by
  have e : Pl.be 2 c = [UInt8.ofNat (c / 256 % 256), UInt8.ofNat (c % 256)] := rfl
  rw [e]
  simp only [wsum, UInt8.toNat_ofNat']
  omega

theorem data_join (a b : ByteArray) : (a ++ b).data.toList = a.data.toList ++ b.data.toList := by simp [ByteArray.data_append]
theorem len_data (s : ByteArray) : s.data.toList.length = s.size := by rw [Array.length_toList]; rfl
theorem data_ext (s : ByteArray) (a b : Nat) : (s.extract a b).data.toList = (s.data.toList.drop a).take (b - a) := by simp [ByteArray.data_extract]
theorem size_join (a b : ByteArray) : (a ++ b).size = a.size + b.size := by rw [← len_data, data_join, List.length_append, len_data, len_data]

theorem head_len (s : ByteArray) (a : Nat) (h : a ≤ s.size) : (s.extract 0 a).data.toList.length = a := by
  rw [data_ext, List.length_take, List.length_drop, len_data]; omega
theorem tail_len (s : ByteArray) (a : Nat) (_ : a ≤ s.size) : (s.extract a s.size).data.toList.length = s.size - a := by
  rw [data_ext, List.length_take, List.length_drop, len_data]; omega

/-- the plain sum where something of two bytes stands in the gap -/
theorem wsum_in (p s : ByteArray) (a : Nat) (v : List UInt8) (hv : v.length = 2) (hp : p.size % 2 = 0) (ha : a % 2 = 0) (h : a + 2 ≤ s.size) :
    wsum ((p ++ (s.extract 0 a ++ ⟨v.toArray⟩ ++ s.extract (a + 2) s.size)).data.toList) = wsum p.data.toList + wsum (s.extract 0 a).data.toList + wsum v + wsum (s.extract (a + 2) s.size).data.toList := by
  have h1 := head_len s a (by omega)
  rw [data_join, data_join, data_join, wsum_append _ _ (by rw [len_data]; exact hp), List.append_assoc, wsum_append _ _ (by rw [h1]; exact ha), show (⟨v.toArray⟩ : ByteArray).data.toList = v from rfl, wsum_append _ _ (by rw [hv])]
  omega

theorem gap_eq (p s : ByteArray) (a : Nat) : gap p s a = p ++ (s.extract 0 a ++ ⟨[0, 0].toArray⟩ ++ s.extract (a + 2) s.size) := by
  unfold gap
  simp only [ByteArray.append_assoc]

/-- A TEXT WITH ITS SUM PUT IN IS RIGHT -/
theorem filled_right (p s : ByteArray) (a : Nat) (hp : p.size % 2 = 0) (ha : a % 2 = 0) (h : a + 2 ≤ s.size) : sum ((p ++ filled p s a).data.toList) = 0 := by
  have h0 := wsum_in p s a [0, 0] rfl hp ha h
  have h1 := wsum_in p s a (Pl.be 2 (sum (gap p s a).data.toList)) (Pl.be_length _ _) hp ha h
  have hc := sum_le (gap p s a).data.toList
  rw [wsum_be2 _ (by omega)] at h1
  rw [← gap_eq] at h0
  have z : wsum [0, 0] = 0 := rfl
  have e : sum (gap p s a).data.toList = 65535 - norm (wsum (gap p s a).data.toList) := rfl
  unfold filled
  generalize sum (gap p s a).data.toList = c at *
  unfold sum
  rw [h1]
  generalize wsum (gap p s a).data.toList = W at *
  rw [show wsum p.data.toList + wsum (s.extract 0 a).data.toList + c + wsum (s.extract (a + 2) s.size).data.toList = W + c from by omega, e]
  unfold norm
  split <;> split <;> omega

theorem filled_size (p s : ByteArray) (a : Nat) (h : a + 2 ≤ s.size) : (filled p s a).size = s.size := by
  have h1 := head_len s a (by omega)
  have h2 := tail_len s (a + 2) (by omega)
  rw [len_data] at h1 h2
  have h3 : (⟨(Pl.be 2 (sum (gap p s a).data.toList)).toArray⟩ : ByteArray).size = 2 := by
    rw [← len_data]; exact Pl.be_length _ _
  unfold filled
  rw [size_join, size_join, h1, h2, h3]
  omega

theorem eq_of_data {a b : ByteArray} (h : a.data.toList = b.data.toList) : a = b := ByteArray.ext (Array.toList_inj.1 h)

theorem filled_head (p s : ByteArray) (a : Nat) (h : a + 2 ≤ s.size) : (filled p s a).extract 0 a = s.extract 0 a := by
  apply eq_of_data
  have h1 := head_len s a (by omega)
  rw [data_ext, List.drop_zero, filled, data_join, data_join, List.append_assoc, List.take_left' (by rw [h1]; omega)]

theorem filled_tail (p s : ByteArray) (a : Nat) (h : a + 2 ≤ s.size) : (filled p s a).extract (a + 2) (filled p s a).size = s.extract (a + 2) s.size := by
  apply eq_of_data
  have h1 := head_len s a (by omega)
  have h2 := tail_len s (a + 2) (by omega)
  have h3 : (⟨(Pl.be 2 (sum (gap p s a).data.toList)).toArray⟩ : ByteArray).data.toList.length = 2 := Pl.be_length _ _
  rw [data_ext, filled_size p s a h, filled, data_join, data_join, List.drop_left' (by rw [List.length_append, h1, h3]), List.take_of_length_le (by rw [h2]; omega)]

theorem filled_gap (p s : ByteArray) (a : Nat) (h : a + 2 ≤ s.size) : gap p (filled p s a) a = gap p s a := by
  unfold gap
  rw [filled_head p s a h, filled_tail p s a h]

/-- .. AND HAS IT PUT IN AGAIN: THE SAME -/
theorem filled_again (p s : ByteArray) (a : Nat) (h : a + 2 ≤ s.size) : filled p (filled p s a) a = filled p s a := by
  have e : filled p (filled p s a) a = (filled p s a).extract 0 a ++ ⟨(Pl.be 2 (sum (gap p (filled p s a) a).data.toList)).toArray⟩ ++ (filled p s a).extract (a + 2) (filled p s a).size := rfl
  rw [e, filled_gap p s a h, filled_head p s a h, filled_tail p s a h]
  rfl

/-- a byte 0 behind a text of an odd length turns nothing -/
theorem wsum_zero : ∀ (l : List UInt8), l.length % 2 = 1 → wsum (l ++ [0]) = wsum l
  | [], h => by simp at h
  | [x], _ => by simp [wsum]
  | x :: y :: r, h => by
    have ih := wsum_zero r (by simp only [List.length_cons] at h; omega)
    simp only [List.cons_append, wsum, ih]

theorem sum_zero (l : List UInt8) (h : l.length % 2 = 1) : sum (l ++ [0]) = sum l := by unfold sum; rw [wsum_zero l h]

/-- a byte set -/
theorem wsum_set : ∀ (l : List UInt8) (j : Nat) (v : UInt8), j < l.length → wsum (l.set j v) + (if j % 2 = 0 then 256 else 1) * (l.getD j 0).toNat = wsum l + (if j % 2 = 0 then 256 else 1) * v.toNat
  | [], j, v, h => by simp at h
  | [x], j, v, h => by
    have : j = 0 := by simp at h; exact h
    subst this
    simp [wsum]; omega
  | x :: y :: r, 0, v, _ => by simp [wsum]; omega
  | x :: y :: r, 1, v, _ => by simp [wsum]; omega
  | x :: y :: r, j + 2, v, h => by
    have ih := wsum_set r j v (by simp only [List.length_cons] at h; omega)
    have e : (j + 2) % 2 = j % 2 := by omega
    simp only [List.set_cons_succ, wsum, List.getD_cons_succ, e]
    omega

/-- two bytes changed about -/
def swap (l : List UInt8) (a b : Nat) : List UInt8 := (l.set a (l.getD b 0)).set b (l.getD a 0)
theorem swap_length (l : List UInt8) (a b : Nat) : (swap l a b).length = l.length := by simp [swap]

theorem wsum_swap (l : List UInt8) (a b : Nat) (ha : a < l.length) (hb : b < l.length) (h : a % 2 = b % 2) : wsum (swap l a b) = wsum l := by
  have h1 := wsum_set l a (l.getD b 0) ha
  have h2 := wsum_set (l.set a (l.getD b 0)) b (l.getD a 0) (by simpa using hb)
  have e : (l.set a (l.getD b 0)).getD b 0 = l.getD b 0 := by
    by_cases hab : a = b
    · subst hab; simp [List.getD_eq_getElem?_getD, ha]
    · simp [List.getD_eq_getElem?_getD, hab]
  rw [e] at h2
  unfold swap
  rw [h] at h1
  generalize (if b % 2 = 0 then 256 else 1) * (l.getD b 0).toNat = X at *
  generalize (if b % 2 = 0 then 256 else 1) * (l.getD a 0).toNat = Y at *
  omega

theorem sum_swap (l : List UInt8) (a b : Nat) (ha : a < l.length) (hb : b < l.length) (h : a % 2 = b % 2) : sum (swap l a b) = sum l := by
  unfold sum; rw [wsum_swap l a b ha hb h]

theorem sum_mod (l : List UInt8) : sum l % 65535 = (65535 - wsum l % 65535) % 65535 := by
  unfold sum norm; split <;> omega

theorem xor_bit (b : Nat) (j : Nat) (hj : j < 8) (hb : b < 256) : (b ^^^ 2 ^ j = b + 2 ^ j ∨ b = (b ^^^ 2 ^ j) + 2 ^ j) ∧ b ^^^ 2 ^ j < 256 := by
  have key : ∀ j, j < 8 → ∀ b, b < 256 → (b ^^^ 2 ^ j = b + 2 ^ j ∨ b = (b ^^^ 2 ^ j) + 2 ^ j) ∧ b ^^^ 2 ^ j < 256 := by decide +kernel
  exact key j hj b hb

/-- A BIT THAT IS TURNED TURNS THE SUM, but for 0 and 65535, which count alike -/
theorem sum_turned (l : List UInt8) (m j : Nat) (v : UInt8) (hm : m < l.length) (hj : j < 8) (hv : v.toNat = (l.getD m 0).toNat ^^^ 2 ^ j) : sum (l.set m v) % 65535 ≠ sum l % 65535 := by
  have h1 := wsum_set l m v hm
  obtain ⟨h2, _⟩ := xor_bit (l.getD m 0).toNat j hj (UInt8.toNat_lt _)
  rw [← hv] at h2
  have hp : 2 ^ j = 1 ∨ 2 ^ j = 2 ∨ 2 ^ j = 4 ∨ 2 ^ j = 8 ∨ 2 ^ j = 16 ∨ 2 ^ j = 32 ∨ 2 ^ j = 64 ∨ 2 ^ j = 128 := by
    have : j = 0 ∨ j = 1 ∨ j = 2 ∨ j = 3 ∨ j = 4 ∨ j = 5 ∨ j = 6 ∨ j = 7 := by omega
    rcases this with rfl | rfl | rfl | rfl | rfl | rfl | rfl | rfl <;> decide
  rw [sum_mod, sum_mod]
  generalize (l.getD m 0).toNat = x at *
  generalize wsum (l.set m v) = A at *
  generalize wsum l = B at *
  generalize v.toNat = y at *
  generalize 2 ^ j = q at *
  split at h1 <;> rcases h2 with h2 | h2 <;> omega
end Go.Proofs.Ytoljmeemejmjfaa.Cs
