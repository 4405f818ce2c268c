/-
  What the reference's Put (siphonref01) computes. Condition: the number is one of its kind.
-/
import Derived.Test.YthpdfihmpoofaaaCases
import Derived.Test.YthpdfihmpoofaaaRRow
namespace Go.Proofs.Ythpdfihmpoofaaa
open Go.RowKit

theorem rput_arg (n m : Int) (hm : m < 1 ∨ 4 < m ∨ n < 0) (w : World) :
    Calls Try.prog 35 #[.int .i64 n, .int .i64 m] w fun e w' => e = .returned (.tuple #[.string ⟨#[]⟩, .int .i64 1]) ∧ w = w' := by
  by_cases h1 : m < 1
  · clear hm
    go_enter Try.func35, Try.ntmps35
    go_wp2
    go_ret2
    exact ⟨rfl, rfl⟩
  · have h1' : 1 ≤ m := by omega
    by_cases h2 : 4 < m
    · clear hm h1
      go_enter Try.func35, Try.ntmps35
      go_wp2
      go_ret2
      exact ⟨rfl, rfl⟩
    · have h2' : m ≤ 4 := by omega
      have h3 : n < 0 := by omega
      clear hm h1 h2
      go_enter Try.func35, Try.ntmps35
      go_wp2
      go_ret2
      exact ⟨rfl, rfl⟩

/-- what Put answers, whether the number fits or not -/
def PutPost (n m : Nat) (w : World) (e : Ending) (w' : World) : Prop :=
  (n < 256 ^ m → e = .returned (.tuple #[.string ⟨(Pl.be m n).toArray⟩, .int .i64 0])) ∧ (256 ^ m ≤ n → e = .returned (.tuple #[.string ⟨#[]⟩, .int .i64 1])) ∧ Below w.heap.size w w'

set_option maxHeartbeats 400000 in
theorem rput_any (n m : Nat) (h1 : 1 ≤ m) (h4 : m ≤ 4) (hn : n ≤ 9223372036854775807) (w : World) :
    Calls Try.prog 35 #[.int .i64 n, .int .i64 m] w (PutPost n m w) := by
  obtain ⟨i0, hi, hz0, hz1, hz2⟩ := info_parts info5
  have hmk : ∀ u : World, (Instr.makeSlice 41 (.int .i64 (m : Int)) (.int .i64 (m : Int))).run Try.prog u =
      .ok (.slice (some ⟨u.heap.size, 0, none⟩) m m) (u.alloc (.cells (madeCells #[.int .u8 0] m) 5)) := fun u => by
    have h := run_make (P := Try.prog) u 41 5 i0 (.int .u8 0) Try.underlying41 hi hz0 .i64 .i64 (m : Int) (m : Int) (by omega) (Int.le_refl _) (by rw [hz2]; omega) (by omega)
    simpa [hz1, Value.cells] using h
  have d1 : decide ((m : Int) < 1) = false := decide_eq_false (by omega)
  have d2 : decide (4 < (m : Int)) = false := decide_eq_false (by omega)
  clear hz0 hz1 hz2
  go_enter Try.func35, Try.ntmps35
  go_wp2
  clear hmk
  go_loopw [0, 7] (fun x i wr => ∃ j q : Nat, j ≤ m ∧ i = .int .i64 ((j : Int) - 1) ∧ x = .int .i64 q ∧ q ≤ n ∧ Hid (q = n / 256 ^ (m - j)) ∧ wr.ownsRow w.heap.size 5 1 (.slice (some ⟨w.heap.size, 0, none⟩) m m) m (rowB m n j) ∧
      Below w.heap.size w wr ∧ w.heap.size < wr.heap.size) (fun _ i _ => (intOf i + 1).toNat)
  case atStart =>
    refine ⟨m, n, Nat.le_refl _, rfl, rfl, Nat.le_refl _, ?_, ?_, ?_, ?_⟩
    · show n = _
      rw [Nat.sub_self, Nat.pow_zero, Nat.div_one]
    · have h := World.ownsRow_lit (base := w.heap.size) (e := 5) (size := 1) w (madeCells #[.int .u8 0] m) m (Nat.le_refl _) (by unfold maxLen; omega) (by rw [size_madeCells]; omega)
      rw [rowB_start m n] at h
      exact h
    · go_grown
    · simp
  case round =>
    obtain ⟨j, q, hj, rfl, rfl, hqn, hq, hrow, hbel, hsz⟩ := hrel
    have HR := Lib.hid hrow
    rcases Nat.eq_zero_or_pos j with rfl | hpos
    · have hcv := string_of_row (Pl.be_length m n) (rowB_end m n ▸ hrow)
      clear hrow
      by_cases hfit : n < 256 ^ m
      · have hq0 : q = 0 := by rw [hq.out, Nat.sub_zero]; exact Nat.div_eq_of_lt hfit
        subst hq0
        have HF := Lib.hid hfit
        clear hfit
        go_wp2
        go_ret2
        exact ⟨fun _ => rfl, fun h => absurd HF.out (by omega), hbel⟩
      · have hq0 : 0 < q := by rw [hq.out, Nat.sub_zero]; exact Nat.div_pos (by omega) (Nat.pow_pos (by decide))
        have HF := Lib.hid hfit
        clear hfit
        go_wp2
        go_ret2
        exact ⟨fun h => absurd h HF.out, fun _ => rfl, hbel⟩
    · obtain ⟨k, rfl⟩ : ∃ k, j = k + 1 := ⟨j - 1, by omega⟩
      have hck := hrow.cellAt k (by omega)
      have hfk := hrow.frozenAt k
      rw [rowB_get m n k] at hck
      clear hrow
      have hst := (HR.out.stored k (.int .u8 (n / 256 ^ (m - 1 - k) % 256 : Nat))).1
      rw [rowB_set m n k (by omega), show m - 1 - k = m - (k + 1) from by omega, ← hq.out] at hst
      have HS := Lib.hid hst
      clear hst
      have e1 : ((k + 1 : Nat) : Int) - 1 = (k : Int) := by omega
      rw [e1]
      clear e1
      go_wp2
      refine ⟨⟨k, q / 256, by omega, rfl, ?_, by omega, ?_, ?_, hbel.setCell (Nat.le_refl _) _, by simpa using hsz⟩, by simp [intOf]⟩
      · rfl
      · show q / 256 = _
        rw [hq.out, Nat.div_div_eq_div_mul, ← Nat.pow_succ]
        congr 2
        omega
      · exact HS.out

theorem rput_ok (n m : Nat) (h1 : 1 ≤ m) (h4 : m ≤ 4) (h : n < 256 ^ m) (hn : n ≤ 9223372036854775807) (w : World) :
    Calls Try.prog 35 #[.int .i64 n, .int .i64 m] w fun e w' => e = .returned (.tuple #[.string ⟨(Pl.be m n).toArray⟩, .int .i64 0]) ∧ Below w.heap.size w w' :=
  (rput_any n m h1 h4 hn w).mono fun _ _ hp => ⟨hp.1 h, hp.2.2⟩

theorem rput_big (n m : Nat) (h1 : 1 ≤ m) (h4 : m ≤ 4) (h : 256 ^ m ≤ n) (hn : n ≤ 9223372036854775807) (w : World) :
    Calls Try.prog 35 #[.int .i64 n, .int .i64 m] w fun e w' => e = .returned (.tuple #[.string ⟨#[]⟩, .int .i64 1]) ∧ Below w.heap.size w w' :=
  (rput_any n m h1 h4 hn w).mono fun _ _ hp => ⟨hp.2.1 h, hp.2.2⟩

theorem rput_all (n m : Int) (hn : n ≤ 9223372036854775807) (w : World) :
    Calls Try.prog 35 #[.int .i64 n, .int .i64 m] w fun e w' => e = .returned (.tuple #[.string (putV n m), .int .i64 (putE n m)]) ∧ Below w.heap.size w w' :=
  put_cases n m (P := fun v c => Calls Try.prog 35 #[.int .i64 n, .int .i64 m] w fun e w' => e = .returned (.tuple #[.string v, .int .i64 c]) ∧ Below w.heap.size w w')
    (fun h => (rput_arg n m h w).mono fun _ _ ⟨h1, h2⟩ => ⟨h1, h2 ▸ Below.refl _ _⟩)
    (fun x k ex ek h1 h4 h => by subst ex ek; exact rput_big x k h1 h4 h (by omega) w)
    (fun x k ex ek h1 h4 h => by subst ex ek; exact rput_ok x k h1 h4 h (by omega) w)

end Go.Proofs.Ythpdfihmpoofaaa
