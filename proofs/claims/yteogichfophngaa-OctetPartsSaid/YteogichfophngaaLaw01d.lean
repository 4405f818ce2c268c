/-
  The walk of 'OctetParts': it returns true and leaves what was there alone. Conditions: the text's length fits an int, the numbers are of their kind.
-/
import Derived.Test.YteogichfophngaaLaw01c
namespace Go.Proofs.Yteogichfophngaa
open Go.RowKit

def Cuts (s : ByteArray) (a n : Int) (v : ByteArray) (c : Int) : Prop :=
  ∀ w : World, Calls Try.prog 15 #[.string s, .int .i64 a, .int .i64 n] w fun e w' => e = .returned (.tuple #[.string v, .int .i64 c]) ∧ w = w'
theorem Cuts.to {s : ByteArray} {a n : Int} {v : ByteArray} {c : Int} (h : Cuts s a n v c) (w : World) : Calls Try.prog 15 #[.string s, .int .i64 a, .int .i64 n] w fun e w' => e = .returned (.tuple #[.string v, .int .i64 c]) ∧ w = w' := h w

theorem ba_eq {a b : ByteArray} (h : a.data.toList = b.data.toList) : a = b := ByteArray.ext (Array.toList_inj.1 h)
theorem data_extract (s : ByteArray) (a b : Nat) : (s.extract a b).data.toList = (s.data.toList.drop a).take (b - a) := by
  simp [ByteArray.data_extract]
theorem size_cut (s : ByteArray) (a n : Nat) (h : a + n ≤ s.size) : (s.extract a (a + n)).size = n := by
  rw [← size_toList, data_extract, List.length_take, List.length_drop, size_toList]; omega

/-- the number of two parts: the first one, so many bytes higher, and the second one -/
theorem num_parts (l : List UInt8) (j m : Nat) (hl : l.length = m) : Pl.num l = Pl.num (l.take j) * 256 ^ (m - j) + Pl.num (l.drop j) := by
  conv => lhs; rw [← List.take_append_drop j l]
  rw [Pl.num_append, List.length_drop, hl]

set_option maxRecDepth 100000 in
set_option maxHeartbeats 1000000 in
theorem octetParts_out (s : ByteArray) (a n k : Int) (hs : s.size ≤ 9223372036854775807) (h : a < 0 ∨ n < 0 ∨ k < 0 ∨ (s.size : Int) < a ∨ (s.size : Int) < n ∨ n < k) (w : World) :
    Calls Try.prog 6 #[.agg #[.string s, .int .i64 a, .int .i64 n, .int .i64 k]] w fun e w' => e = .returned (.bool true) ∧ Below w.heap.size w w' := by
  have hc : a < 0 ∨ (0 ≤ a ∧ n < 0) ∨ (0 ≤ a ∧ 0 ≤ n ∧ k < 0) ∨ (0 ≤ a ∧ 0 ≤ n ∧ 0 ≤ k ∧ (s.size : Int) < a) ∨ (0 ≤ a ∧ 0 ≤ n ∧ 0 ≤ k ∧ a ≤ s.size ∧ (s.size : Int) < n) ∨ (0 ≤ a ∧ 0 ≤ n ∧ 0 ≤ k ∧ a ≤ s.size ∧ n ≤ s.size ∧ n < k) := by omega
  clear h
  rcases hc with c1 | ⟨c1, c2⟩ | ⟨c1, c2, c3⟩ | ⟨c1, c2, c3, c4⟩ | ⟨c1, c2, c3, c4, c5⟩ | ⟨c1, c2, c3, c4, c5, c6⟩
  all_goals
    go_enter Try.func6, Try.ntmps6
    go_wp2_with fail
    go_quiet (fail)
    go_wp2_with ((with_reducible refine (live_any _).mono ?_); rintro e w7 ⟨rfl, h7⟩)
    go_ret
    exact ⟨rfl, bstep (bbox _ _ _) h7⟩

set_option maxRecDepth 100000 in
set_option maxHeartbeats 1000000 in
theorem octetParts_in (s : ByteArray) (a n k : Nat) (hs : s.size ≤ 9223372036854775807) (ha : a ≤ s.size) (hn : n ≤ s.size) (hk : k ≤ n) (w : World) :
    Calls Try.prog 6 #[.agg #[.string s, .int .i64 a, .int .i64 n, .int .i64 k]] w fun e w' => e = .returned (.bool true) ∧ Below w.heap.size w w' := by
  by_cases hfit : a + n ≤ s.size
  · obtain ⟨p, hp⟩ : ∃ p, p = s.extract a (a + n) := ⟨_, rfl⟩
    obtain ⟨x, hx⟩ : ∃ x, x = p.extract 0 (0 + k) := ⟨_, rfl⟩
    obtain ⟨y, hy⟩ : ∃ y, y = p.extract k (k + (n - k)) := ⟨_, rfl⟩
    have sp : p.size = n := by rw [hp]; exact size_cut s a n hfit
    have sx : x.size = k := by rw [hx]; exact size_cut p 0 k (by omega)
    have sy : y.size = n - k := by rw [hy]; exact size_cut p k (n - k) (by omega)
    have hP : Cuts s a n p 0 := fun w => hp ▸ cut_ok s a n hs hfit w
    have hX : Cuts p 0 k x 0 := fun w => hx ▸ cut_ok p 0 k (by omega) (by omega) w
    have hY : Cuts p k ((n : Int) - (k : Int)) y 0 := fun w => by
      have h := cut_ok p k (n - k) (by omega) (by omega) w
      rw [← hy, Int.natCast_sub hk] at h
      exact h
    have lp : p.data.toList.length = n := by rw [size_toList, sp]
    have lx : x.data.toList = p.data.toList.take k := by rw [hx, data_extract]; simp
    have ly : y.data.toList = p.data.toList.drop k := by rw [hy, data_extract, List.take_of_length_le (by rw [List.length_drop]; omega)]
    have hxy : x ++ y = p := ba_eq (by rw [data_add, lx, ly, List.take_append_drop])
    have ls : (s.data.toList.drop a).take n = p.data.toList := by rw [hp, ba_extract]
    clear hp hx hy
    have hx64 : x.size + y.size ≤ 9223372036854775807 := by omega
    by_cases hin : 2 ≤ n ∧ n ≤ 4 ∧ 1 ≤ k ∧ k < n
    · obtain ⟨i1, i2, i3, i4⟩ := hin
      obtain ⟨Q, hQ⟩ : ∃ Q, Q = Pl.num p.data.toList := ⟨_, rfl⟩
      obtain ⟨X, hX0⟩ : ∃ X, X = Pl.num x.data.toList := ⟨_, rfl⟩
      obtain ⟨Y, hY0⟩ : ∃ Y, Y = Pl.num y.data.toList := ⟨_, rfl⟩
      have hsum : Q = X * 256 ^ (n - k) + Y := by rw [hQ, hX0, hY0, lx, ly]; exact num_parts _ _ _ lp
      have hQ4 : Q < 4294967296 := by
        have h := num4 p.data.toList n i2
        rw [List.take_of_length_le (by omega), ← hQ] at h
        exact h
      have gS : Gets s a n Q 0 := fun w => by
        have h := get_ok s a n hs (by omega) (by omega) hfit w
        rw [ls, ← hQ] at h
        exact h
      have gX : Gets x 0 k X 0 := fun w => by
        have h := get_ok x 0 k (by omega) (by omega) (by omega) (by omega) w
        rw [List.drop_zero, List.take_of_length_le (by rw [size_toList, sx]; omega), ← hX0] at h
        exact h
      have gY : Gets y 0 ((n : Int) - (k : Int)) Y 0 := fun w => by
        have h := get_ok y 0 (n - k) (by omega) (by omega) (by omega) (by omega) w
        rw [List.drop_zero, List.take_of_length_le (by rw [size_toList, sy]; omega), ← hY0, Int.natCast_sub hk] at h
        exact h
      have HS := Lib.hid hsum
      have SP := Lib.hid sp
      have SX := Lib.hid sx
      have SY := Lib.hid sy
      clear hsum sp sx sy lp lx ly ls hQ hX0 hY0
      have e1 : decide ((a : Int) < 0) = false := decide_eq_false (by omega)
      have e2 : decide ((n : Int) < 0) = false := decide_eq_false (by omega)
      have e3 : decide ((k : Int) < 0) = false := decide_eq_false (by omega)
      have e4 : decide ((n : Int) < 2) = false := decide_eq_false (by omega)
      have e5 : decide (4 < (n : Int)) = false := decide_eq_false (by omega)
      have e6 : decide ((k : Int) < 1) = false := decide_eq_false (by omega)
      go_enter Try.func6, Try.ntmps6
      go_wp2_with fail
      go_quiet (fail)
      go_wp2_with (first | ((with_reducible refine (hP.to _).mono ?_); rintro e w1 ⟨rfl, rfl⟩) | ((with_reducible refine (hX.to _).mono ?_); rintro e w2 ⟨rfl, rfl⟩) | ((with_reducible refine (hY.to _).mono ?_); rintro e w3 ⟨rfl, rfl⟩) | ((with_reducible refine (gS.to _).mono ?_); rintro e w4 ⟨rfl, h4⟩) | ((with_reducible refine (gX.to _).mono ?_); rintro e w5 ⟨rfl, h5⟩) | ((with_reducible refine (gY.to _).mono ?_); rintro e w6 ⟨rfl, h6⟩) | ((with_reducible refine (live_any _).mono ?_); rintro e w7 ⟨rfl, h7⟩))
      go_loop [15, 19] (fun q i => ∃ j z : Nat, j + k ≤ n ∧ i = .int .i64 j ∧ q = .int .i64 z ∧ Hid (z = X * 256 ^ j)) (fun _ i => n - (intOf i).toNat)
      case atStart => exact ⟨0, X, by omega, rfl, rfl, by show X = _; rw [Nat.pow_zero, Nat.mul_one]⟩
      case round =>
        obtain ⟨j, z, hj, rfl, rfl, hz⟩ := hrel
        by_cases hlt : j + k < n
        · have hz2 : z * 256 ≤ 4294967296 := by
            have h1 : X * 256 ^ (j + 1) ≤ X * 256 ^ (n - k) := Nat.mul_le_mul_left _ (Nat.pow_le_pow_right (by decide) (by omega))
            have h2 := HS.out
            rw [Nat.pow_succ, ← Nat.mul_assoc, ← hz.out] at h1
            omega
          go_wp2
          refine ⟨⟨j + 1, z * 256, by omega, by go_num, ?_, ?_⟩, by simp [intOf]; omega⟩
          · rw [Nat.mul_comm]; go_num
          · show z * 256 = _
            rw [hz.out, Nat.pow_succ, Nat.mul_assoc]
        · have hjk : j = n - k := by omega
          have hq : Q = z + Y := by rw [HS.out, hz.out, hjk]
          have hq2 : ((Q : Int) == (z : Int) + (Y : Int)) = true := beq_iff_eq.2 (by omega)
          have hzq : z ≤ Q := by omega
          have hyq : Y ≤ Q := by omega
          have HJ := Lib.hid hjk
          clear hjk hq
          go_wp2_with ((with_reducible refine (live_any _).mono ?_); rintro e w7 ⟨rfl, h7⟩)
          go_ret
          exact ⟨rfl, bstep (bstep (bstep (bstep (bbox _ _ _) h4) h5) h6) h7⟩
    · have hc : n < 2 ∨ (2 ≤ n ∧ 4 < n) ∨ (2 ≤ n ∧ n ≤ 4 ∧ k < 1) ∨ (2 ≤ n ∧ n ≤ 4 ∧ 1 ≤ k ∧ n ≤ k) := by omega
      have SP := Lib.hid sp
      have SX := Lib.hid sx
      have SY := Lib.hid sy
      clear hin sp sx sy lp lx ly ls
      have e1 : decide ((a : Int) < 0) = false := decide_eq_false (by omega)
      have e2 : decide ((n : Int) < 0) = false := decide_eq_false (by omega)
      have e3 : decide ((k : Int) < 0) = false := decide_eq_false (by omega)
      rcases hc with c1 | ⟨c1, c2⟩ | ⟨c1, c2, c3⟩ | ⟨c1, c2, c3, c4⟩
      all_goals
        go_enter Try.func6, Try.ntmps6
        go_wp2_with fail
        go_quiet (fail)
        go_wp2_with (first | ((with_reducible refine (hP.to _).mono ?_); rintro e w1 ⟨rfl, rfl⟩) | ((with_reducible refine (hX.to _).mono ?_); rintro e w2 ⟨rfl, rfl⟩) | ((with_reducible refine (hY.to _).mono ?_); rintro e w3 ⟨rfl, rfl⟩) | ((with_reducible refine (live_any _).mono ?_); rintro e w7 ⟨rfl, h7⟩))
        go_ret
        exact ⟨rfl, bstep (bbox _ _ _) h7⟩
  · have hP : Cuts s a n ⟨#[]⟩ 2 := fun w => cut_cut s a n hs (by omega) (by omega) (by omega) w
    go_enter Try.func6, Try.ntmps6
    go_wp2_with fail
    go_quiet (fail)
    go_wp2_with (first | ((with_reducible refine (hP.to _).mono ?_); rintro e w1 ⟨rfl, rfl⟩) | ((with_reducible refine (live_any _).mono ?_); rintro e w7 ⟨rfl, h7⟩))
    go_ret
    exact ⟨rfl, bstep (bbox _ _ _) h7⟩

theorem octetParts_walk (s : ByteArray) (a n k : Int) (hs : s.size ≤ 9223372036854775807) (w : World) :
    Calls Try.prog 6 #[.agg #[.string s, .int .i64 a, .int .i64 n, .int .i64 k]] w fun e w' => e = .returned (.bool true) ∧ Below w.heap.size w w' := by
  by_cases h : a < 0 ∨ n < 0 ∨ k < 0 ∨ (s.size : Int) < a ∨ (s.size : Int) < n ∨ n < k
  · exact octetParts_out s a n k hs h w
  · obtain ⟨x, rfl⟩ := Int.eq_ofNat_of_zero_le (show 0 ≤ a by omega)
    obtain ⟨m, rfl⟩ := Int.eq_ofNat_of_zero_le (show 0 ≤ n by omega)
    obtain ⟨j, rfl⟩ := Int.eq_ofNat_of_zero_le (show 0 ≤ k by omega)
    exact octetParts_in s x m j hs (by omega) (by omega) (by omega) w
end Go.Proofs.Yteogichfophngaa
