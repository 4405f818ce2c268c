/-
  The walk of 'CsumOrder': it returns true and leaves what was there alone. Conditions: the text's length lies within the form's own reach, the numbers are of their kind.
-/
import Derived.Test.YtcheceapcimbmaaLaw02
import Derived.Test.YtcheceapcimbmaaBa
namespace Go.Proofs.Ytcheceapcimbmaa
open Go.RowKit

/-- the bytes behind j rounds -/
def mixed (l : List UInt8) (i k : Nat) : Nat → List UInt8
  | 0 => l
  | j + 1 => Cs.swap (mixed l i k j) (2 * i + j) (2 * k + j)
theorem mixed_length (l : List UInt8) (i k j : Nat) : (mixed l i k j).length = l.length := by
  induction j with
  | zero => rfl
  | succ j ih => rw [mixed, Cs.swap_length, ih]
theorem mixed_sum (l : List UInt8) (i k j : Nat) (hi : 2 * i + j ≤ l.length) (hk : 2 * k + j ≤ l.length) : Cs.sum (mixed l i k j) = Cs.sum l := by
  induction j with
  | zero => rfl
  | succ j ih =>
    have hl := mixed_length l i k j
    rw [mixed, Cs.sum_swap _ _ _ (by omega) (by omega) (by omega), ih (by omega) (by omega)]

theorem order_odd (s : ByteArray) (i k : Int) (hs : s.size ≤ 140737488351232) (ho : s.size % 2 = 1) (w : World) :
    Calls Try.prog 6 #[.string s, .int .i64 i, .int .i64 k] w fun e w' => e = .returned (.bool true) ∧ Below w.heap.size w w' := by
  have e1 : (s.size : Int) % 2 = 1 := by omega
  obtain ⟨t, ht⟩ : ∃ t, t = s ++ ⟨#[0]⟩ := ⟨_, rfl⟩
  have st : t.size = s.size + 1 := by rw [ht, size_add]; rfl
  obtain ⟨n, hn⟩ : ∃ n, n = Cs.sum s.data.toList := ⟨_, rfl⟩
  have hS1 : Sums s n := fun w => hn ▸ sum_any s (by omega) w
  have hS2 : Sums t n := fun w => by
    have h := sum_any t (by omega) w
    rw [ht, data_add, show (⟨#[0]⟩ : ByteArray).data.toList = [0] from rfl, Cs.sum_zero _ (by rw [size_toList]; exact ho), ← hn, ← ht] at h
    exact h
  have hj : ∀ w : World, (Op.stringOp .add s ⟨#[0]⟩).run Try.prog w = .ok (.string t) w := fun w => by
    rw [ht]; exact join2 s ⟨#[0]⟩ (by show s.size + 1 ≤ _; omega) w
  clear ho hn ht
  go_enter Try.func6, Try.ntmps6
  go_wp2_with (first | ((with_reducible refine (hS1.to _).mono ?_); rintro e w1 ⟨rfl, h1⟩) | ((with_reducible refine (hS2.to _).mono ?_); rintro e w2 ⟨rfl, h2⟩) | ((with_reducible refine (live_any _).mono ?_); rintro e w3 ⟨rfl, h3⟩))
  go_ret
  exact ⟨rfl, bstep (bstep h1 h2) h3⟩

theorem order_out (s : ByteArray) (i k : Int) (hs : s.size ≤ 140737488351232) (ho : s.size % 2 = 0) (h : i < 0 ∨ k < 0 ∨ (s.size / 2 : Nat) ≤ i ∨ (s.size / 2 : Nat) ≤ k) (w : World) :
    Calls Try.prog 6 #[.string s, .int .i64 i, .int .i64 k] w fun e w' => e = .returned (.bool true) ∧ Below w.heap.size w w' := by
  have e1 : (s.size : Int) % 2 = 0 := by omega
  have hc : (decide (i < 0) = true) ∨ (decide (i < 0) = false ∧ decide (k < 0) = true) ∨ (decide (i < 0) = false ∧ decide (k < 0) = false ∧ (s.size : Int) / 2 ≤ i) ∨ (decide (i < 0) = false ∧ decide (k < 0) = false ∧ i < (s.size : Int) / 2 ∧ (s.size : Int) / 2 ≤ k) := by
    simp only [decide_eq_true_eq, decide_eq_false_iff_not]
    omega
  clear h ho
  rcases hc with c1 | ⟨c1, c2⟩ | ⟨c1, c2, c3⟩ | ⟨c1, c2, c3, c4⟩
  all_goals
    go_enter Try.func6, Try.ntmps6
    go_wp2_with ((with_reducible refine (live_any _).mono ?_); rintro e w3 ⟨rfl, h3⟩)
    go_ret
    exact ⟨rfl, h3⟩

set_option maxHeartbeats 1000000 in
theorem order_in (s : ByteArray) (i k : Nat) (hs : s.size ≤ 140737488351232) (ho : s.size % 2 = 0) (hi : 2 * i + 2 ≤ s.size) (hk : 2 * k + 2 ≤ s.size) (w : World) :
    Calls Try.prog 6 #[.string s, .int .i64 i, .int .i64 k] w fun e w' => e = .returned (.bool true) ∧ Below w.heap.size w w' := by
  have hconv := conv_bytes w s
  have hba := BytesAt.of_string w s
  have hbel := below_bytes w s
  have el := size_toList s
  obtain ⟨wb, ewb⟩ : ∃ wb, wb = Lib.bytesWorld w 5 s := ⟨_, rfl⟩
  have hbs : wb.heap.size = w.heap.size + 1 := by rw [ewb]; exact Lib.bytesWorld_size w 5 s
  rw [← ewb] at hconv hba hbel
  obtain ⟨t, ht⟩ : ∃ t : ByteArray, t = ⟨(mixed s.data.toList i k 2).toArray⟩ := ⟨_, rfl⟩
  have st : t.size = s.size := by rw [ht, size_mk, mixed_length, el]
  obtain ⟨n, hn⟩ : ∃ n, n = Cs.sum s.data.toList := ⟨_, rfl⟩
  have hS1 : Sums s n := fun w => hn ▸ sum_any s (by omega) w
  have hS2 : Sums t n := fun w => by
    have h := sum_any t (by omega) w
    rw [ht, show (⟨(mixed s.data.toList i k 2).toArray⟩ : ByteArray).data.toList = mixed s.data.toList i k 2 from rfl, mixed_sum _ _ _ _ (by omega) (by omega), ← hn, ← ht] at h
    exact h
  have hcvt : ∀ W : World, BytesAt W w.heap.size (mixed s.data.toList i k 2) → (convert 34 9 (.slice (some ⟨w.heap.size, 0, none⟩) s.size (grownCap w s.size 0 5))).run Try.prog W = .ok (.string t) W := by
    intro W hW
    rw [ht]
    exact hW.string s.size _ (by rw [mixed_length, el])
  have HC := Lib.hid hcvt
  have HB := Lib.hid hba
  have e1 : (s.size : Int) % 2 = 0 := by omega
  have c1 : decide ((i : Int) < 0) = false := decide_eq_false (by omega)
  have c2 : decide ((k : Int) < 0) = false := decide_eq_false (by omega)
  have c3 : ((i : Int) < (s.size : Int) / 2) := by omega
  have c4 : ((k : Int) < (s.size : Int) / 2) := by omega
  clear hba ewb ht hn hcvt ho st
  go_enter Try.func6, Try.ntmps6
  go_wp2_with fail
  clear hconv
  go_loopw [8] (fun x wr => ∃ j : Nat, j ≤ 2 ∧ x = .int .i64 j ∧ Hid (BytesAt wr w.heap.size (mixed s.data.toList i k j)) ∧ Below w.heap.size w wr ∧ w.heap.size < wr.heap.size) (fun x _ => 2 - (intOf x).toNat)
  case atStart => exact ⟨0, by omega, rfl, HB.out, hbel, by omega⟩
  case round =>
    obtain ⟨j, hj, rfl, hB, hbl, hsz⟩ := hrel
    by_cases hlt : j < 2
    · have hl := mixed_length s.data.toList i k j
      obtain ⟨cx, fx⟩ := hB.out (2 * i + j) (by omega)
      obtain ⟨cy, fy⟩ := hB.out (2 * k + j) (by omega)
      obtain ⟨x, hx⟩ : ∃ x, x = (mixed s.data.toList i k j).getD (2 * i + j) 0 := ⟨_, rfl⟩
      obtain ⟨y, hy⟩ : ∃ y, y = (mixed s.data.toList i k j).getD (2 * k + j) 0 := ⟨_, rfl⟩
      rw [← hx] at cx
      rw [← hy] at cy
      have s1 := hB.out.store (2 * i + j) y
      obtain ⟨cz, _⟩ := s1 (2 * k + j) (by rw [List.length_set]; omega)
      have s2 := s1.store (2 * k + j) x
      have hm : mixed s.data.toList i k (j + 1) = ((mixed s.data.toList i k j).set (2 * i + j) y).set (2 * k + j) x := by rw [hx, hy]; rfl
      rw [← hm] at s2
      obtain ⟨z, hz⟩ : ∃ z, z = ((mixed s.data.toList i k j).set (2 * i + j) y).getD (2 * k + j) 0 := ⟨_, rfl⟩
      rw [← hz] at cz
      have S2 := Lib.hid s2
      clear s1 s2 hm hx hy hz hl
      go_wp2_with fail
      refine ⟨⟨j + 1, by omega, by go_num, S2.out, (hbl.setCell (Nat.le_refl _) _).setCell (Nat.le_refl _) _, by simpa [World.setCell] using hsz⟩, by simp [intOf]; omega⟩
    · obtain rfl : j = 2 := by omega
      have hcv := HC.out wr hB.out
      go_wp2_with (first | ((with_reducible refine (hS1.to _).mono ?_); rintro e w1 ⟨rfl, h1⟩) | ((with_reducible refine (hS2.to _).mono ?_); rintro e w2 ⟨rfl, h2⟩) | ((with_reducible refine (live_any _).mono ?_); rintro e w3 ⟨rfl, h3⟩))
      go_ret
      exact ⟨rfl, bstep (bstep (bstep hbl h2) h1) h3⟩

theorem csumOrder_walk (s : ByteArray) (i k : Int) (hs : s.size ≤ 140737488351232) (w : World) :
    Calls Try.prog 6 #[.string s, .int .i64 i, .int .i64 k] w fun e w' => e = .returned (.bool true) ∧ Below w.heap.size w w' := by
  by_cases ho : s.size % 2 = 1
  · exact order_odd s i k hs ho w
  · by_cases h : i < 0 ∨ k < 0 ∨ (s.size / 2 : Nat) ≤ i ∨ (s.size / 2 : Nat) ≤ k
    · exact order_out s i k hs (by omega) h w
    · obtain ⟨x, rfl⟩ := Int.eq_ofNat_of_zero_le (show 0 ≤ i by omega)
      obtain ⟨y, rfl⟩ := Int.eq_ofNat_of_zero_le (show 0 ≤ k by omega)
      exact order_in s x y hs (by omega) (by omega) (by omega) w
end Go.Proofs.Ytcheceapcimbmaa
