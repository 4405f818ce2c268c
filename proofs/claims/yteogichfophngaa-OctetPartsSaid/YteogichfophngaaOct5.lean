/-
  What the reference's Put and Eight (siphonref01) compute. Conditions: Put with a width of one to four bytes, a number that is not negative.
-/
import Derived.Test.YteogichfophngaaOct4
namespace Go.Proofs.Yteogichfophngaa
open Go.RowKit

/-- the cells where j bytes are still to come -/
def rowB (m n j : Nat) : List Value := ((List.replicate j 0 ++ (Pl.be m n).drop j).map fun b : UInt8 => Value.int .u8 b.toNat)

theorem rowB_start (m n : Nat) : (madeCells #[Value.int .u8 0] m).toList = rowB m n m := by
  simp only [rowB, madeCells]
  rw [List.drop_of_length_le (by rw [Pl.be_length]; omega), List.append_nil]
  apply List.ext_getElem?
  intro j
  by_cases h : j < m
  · simp [h, Nat.mod_one]
  · simp [h]

theorem rowB_get (m n j : Nat) : (rowB m n (j + 1))[j]? = some (.int .u8 0) := by
  simp only [rowB, List.getElem?_map]
  rw [List.getElem?_append_left (by simp)]
  simp

theorem rowB_set (m n j : Nat) (h : j < m) : (rowB m n (j + 1)).set j (.int .u8 (n / 256 ^ (m - 1 - j) % 256 : Nat)) = rowB m n j := by
  have hl := Pl.be_length m n
  have hg := Pl.be_get m n j h
  have hk : j < (Pl.be m n).length := by omega
  have ek : (Pl.be m n)[j] = UInt8.ofNat (n / 256 ^ (m - 1 - j) % 256) := by
    rw [List.getElem?_eq_getElem hk] at hg
    exact Option.some.inj hg
  simp only [rowB]
  rw [List.drop_eq_getElem_cons hk, ek, List.replicate_succ', List.append_assoc, List.map_append, List.map_append, List.set_append_right _ _ (by simp)]
  simp

theorem rowB_end (m n : Nat) : rowB m n 0 = (Pl.be m n).map fun b : UInt8 => Value.int .u8 b.toNat := by
  simp [rowB]

/-- what Put answers, whether the number fits or not -/
def PutPost (n m : Nat) (w : World) (e : Ending) (w' : World) : Prop :=
  (n < 256 ^ m → e = .returned (.tuple #[.string ⟨(Pl.be m n).toArray⟩, .int .i64 0])) ∧ (256 ^ m ≤ n → e = .returned (.tuple #[.string ⟨#[]⟩, .int .i64 1])) ∧ Below w.heap.size w w'

set_option maxHeartbeats 400000 in
theorem rput_any (n m : Nat) (h1 : 1 ≤ m) (h4 : m ≤ 4) (hn : n ≤ 9223372036854775807) (w : World) :
    Calls Try.prog 14 #[.int .i64 n, .int .i64 m] w (PutPost n m w) := by
  obtain ⟨i0, hi, hz0, hz1, hz2⟩ := info_parts info5
  have hmk : ∀ u : World, (Instr.makeSlice 47 (.int .i64 (m : Int)) (.int .i64 (m : Int))).run Try.prog u =
      .ok (.slice (some ⟨u.heap.size, 0, none⟩) m m) (u.alloc (.cells (madeCells #[.int .u8 0] m) 5)) := fun u => by
    have h := run_make (P := Try.prog) u 47 5 i0 (.int .u8 0) Try.underlying47 hi hz0 .i64 .i64 (m : Int) (m : Int) (by omega) (Int.le_refl _) (by rw [hz2]; omega) (by omega)
    simpa [hz1, Value.cells] using h
  have d1 : decide ((m : Int) < 1) = false := decide_eq_false (by omega)
  have d2 : decide (4 < (m : Int)) = false := decide_eq_false (by omega)
  clear hz0 hz1 hz2
  go_enter Try.func14, Try.ntmps14
  go_wp2
  clear hmk
  go_loopw [0, 7] (fun x i wr => ∃ j q : Nat, j ≤ m ∧ i = .int .i64 ((j : Int) - 1) ∧ x = .int .i64 q ∧ q ≤ n ∧ Hid (q = n / 256 ^ (m - j)) ∧ wr.ownsRow w.heap.size 5 1 (.slice (some ⟨w.heap.size, 0, none⟩) m m) m (rowB m n j) ∧
      Below w.heap.size w wr ∧ w.heap.size < wr.heap.size) (fun _ i _ => (intOf i + 1).toNat)
  case atStart =>
    refine ⟨m, n, Nat.le_refl _, rfl, rfl, Nat.le_refl _, ?_, ?_, ?_, ?_⟩
    · show n = _
      rw [Nat.sub_self, Nat.pow_zero, Nat.div_one]
    · have h := World.ownsRow_lit (base := w.heap.size) (e := 5) (size := 1) w (madeCells #[.int .u8 0] m) m (Nat.le_refl _) (by unfold maxLen; omega) (by rw [size_madeCells]; omega)
      rw [rowB_start m n] at h
      exact h
    · go_grown
    · simp
  case round =>
    obtain ⟨j, q, hj, rfl, rfl, hqn, hq, hrow, hbel, hsz⟩ := hrel
    have HR := Lib.hid hrow
    rcases Nat.eq_zero_or_pos j with rfl | hpos
    · have hcv := string_of_row (Pl.be_length m n) (rowB_end m n ▸ hrow)
      clear hrow
      by_cases hfit : n < 256 ^ m
      · have hq0 : q = 0 := by rw [hq.out, Nat.sub_zero]; exact Nat.div_eq_of_lt hfit
        subst hq0
        have HF := Lib.hid hfit
        clear hfit
        go_wp2
        go_ret2
        exact ⟨fun _ => rfl, fun h => absurd HF.out (by omega), hbel⟩
      · have hq0 : 0 < q := by rw [hq.out, Nat.sub_zero]; exact Nat.div_pos (by omega) (Nat.pow_pos (by decide))
        have HF := Lib.hid hfit
        clear hfit
        go_wp2
        go_ret2
        exact ⟨fun h => absurd h HF.out, fun _ => rfl, hbel⟩
    · obtain ⟨k, rfl⟩ : ∃ k, j = k + 1 := ⟨j - 1, by omega⟩
      have hck := hrow.cellAt k (by omega)
      have hfk := hrow.frozenAt k
      rw [rowB_get m n k] at hck
      clear hrow
      have hst := (HR.out.stored k (.int .u8 (n / 256 ^ (m - 1 - k) % 256 : Nat))).1
      rw [rowB_set m n k (by omega), show m - 1 - k = m - (k + 1) from by omega, ← hq.out] at hst
      have HS := Lib.hid hst
      clear hst
      have e1 : ((k + 1 : Nat) : Int) - 1 = (k : Int) := by omega
      rw [e1]
      clear e1
      go_wp2
      refine ⟨⟨k, q / 256, by omega, rfl, ?_, by omega, ?_, ?_, hbel.setCell (Nat.le_refl _) _, by simpa using hsz⟩, by simp [intOf]⟩
      · rfl
      · show q / 256 = _
        rw [hq.out, Nat.div_div_eq_div_mul, ← Nat.pow_succ]
        congr 2
        omega
      · exact HS.out

theorem rput_ok (n m : Nat) (h1 : 1 ≤ m) (h4 : m ≤ 4) (h : n < 256 ^ m) (hn : n ≤ 9223372036854775807) (w : World) :
    Calls Try.prog 14 #[.int .i64 n, .int .i64 m] w fun e w' => e = .returned (.tuple #[.string ⟨(Pl.be m n).toArray⟩, .int .i64 0]) ∧ Below w.heap.size w w' :=
  (rput_any n m h1 h4 hn w).mono fun _ _ hp => ⟨hp.1 h, hp.2.2⟩

theorem rput_big (n m : Nat) (h1 : 1 ≤ m) (h4 : m ≤ 4) (h : 256 ^ m ≤ n) (hn : n ≤ 9223372036854775807) (w : World) :
    Calls Try.prog 14 #[.int .i64 n, .int .i64 m] w fun e w' => e = .returned (.tuple #[.string ⟨#[]⟩, .int .i64 1]) ∧ Below w.heap.size w w' :=
  (rput_any n m h1 h4 hn w).mono fun _ _ hp => ⟨hp.2.1 h, hp.2.2⟩

set_option maxHeartbeats 400000 in
theorem reight_any (n : Nat) (hn : n < 18446744073709551616) (w : World) :
    Calls Try.prog 20 #[.int .u64 n] w fun e w' => e = .returned (.string ⟨(Pl.be 8 n).toArray⟩) ∧ Below w.heap.size w w' := by
  obtain ⟨i0, hi, hz0, hz1, hz2⟩ := info_parts info5
  have hmk : ∀ u : World, (Instr.makeSlice 47 (.int .i64 8) (.int .i64 8)).run Try.prog u =
      .ok (.slice (some ⟨u.heap.size, 0, none⟩) 8 8) (u.alloc (.cells (madeCells #[.int .u8 0] 8) 5)) := fun u => by
    have h := run_make (P := Try.prog) u 47 5 i0 (.int .u8 0) Try.underlying47 hi hz0 .i64 .i64 8 8 (by omega) (Int.le_refl _) (by rw [hz2]; omega) (by omega)
    simpa [hz1, Value.cells] using h
  clear hz0 hz1 hz2
  go_enter Try.func20, Try.ntmps20
  go_wp2
  clear hmk
  go_loopw [0, 4] (fun x i wr => ∃ j q : Nat, j ≤ 8 ∧ i = .int .i64 ((j : Int) - 1) ∧ x = .int .u64 q ∧ q ≤ n ∧ Hid (q = n / 256 ^ (8 - j)) ∧ wr.ownsRow w.heap.size 5 1 (.slice (some ⟨w.heap.size, 0, none⟩) 8 8) 8 (rowB 8 n j) ∧
      Below w.heap.size w wr ∧ w.heap.size < wr.heap.size) (fun _ i _ => (intOf i + 1).toNat)
  case atStart =>
    refine ⟨8, n, Nat.le_refl _, rfl, rfl, Nat.le_refl _, ?_, ?_, ?_, ?_⟩
    · show n = _
      rw [Nat.sub_self, Nat.pow_zero, Nat.div_one]
    · have h := World.ownsRow_lit (base := w.heap.size) (e := 5) (size := 1) w (madeCells #[.int .u8 0] 8) 8 (Nat.le_refl _) (by unfold maxLen; omega) (by rw [size_madeCells])
      rw [rowB_start 8 n] at h
      exact h
    · go_grown
    · simp
  case round =>
    obtain ⟨j, q, hj, rfl, rfl, hqn, hq, hrow, hbel, hsz⟩ := hrel
    have HR := Lib.hid hrow
    rcases Nat.eq_zero_or_pos j with rfl | hpos
    · have hcv := string_of_row (Pl.be_length 8 n) (rowB_end 8 n ▸ hrow)
      clear hrow
      go_wp2
      go_ret
      exact ⟨rfl, hbel⟩
    · obtain ⟨k, rfl⟩ : ∃ k, j = k + 1 := ⟨j - 1, by omega⟩
      have hck := hrow.cellAt k (by omega)
      have hfk := hrow.frozenAt k
      rw [rowB_get 8 n k] at hck
      clear hrow
      have hst := (HR.out.stored k (.int .u8 (n / 256 ^ (8 - 1 - k) % 256 : Nat))).1
      rw [rowB_set 8 n k (by omega), show 8 - 1 - k = 8 - (k + 1) from by omega, ← hq.out] at hst
      have HS := Lib.hid hst
      clear hst
      have e1 : ((k + 1 : Nat) : Int) - 1 = (k : Int) := by omega
      rw [e1]
      clear e1
      go_wp2
      refine ⟨⟨k, q / 256, by omega, rfl, ?_, by omega, ?_, ?_, hbel.setCell (Nat.le_refl _) _, by simpa using hsz⟩, by simp [intOf]⟩
      · rfl
      · show q / 256 = _
        rw [hq.out, Nat.div_div_eq_div_mul, ← Nat.pow_succ]
        congr 2
        omega
      · exact HS.out
end Go.Proofs.Yteogichfophngaa
