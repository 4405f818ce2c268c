/-
  What the reference's Eight (siphonref01) computes. Condition: the number is one of its kind.
-/
import Derived.Test.YthleobklagjlbaaRRow
namespace Go.Proofs.Ythleobklagjlbaa
open Go.RowKit

set_option maxHeartbeats 400000 in
theorem reight_any (n : Nat) (hn : n < 18446744073709551616) (w : World) :
    Calls Try.prog 25 #[.int .u64 n] w fun e w' => e = .returned (.string ⟨(Pl.be 8 n).toArray⟩) ∧ Below w.heap.size w w' := by
  obtain ⟨i0, hi, hz0, hz1, hz2⟩ := info_parts info5
  have hmk : ∀ u : World, (Instr.makeSlice 36 (.int .i64 8) (.int .i64 8)).run Try.prog u =
      .ok (.slice (some ⟨u.heap.size, 0, none⟩) 8 8) (u.alloc (.cells (madeCells #[.int .u8 0] 8) 5)) := fun u => by
    have h := run_make (P := Try.prog) u 36 5 i0 (.int .u8 0) Try.underlying36 hi hz0 .i64 .i64 8 8 (by omega) (Int.le_refl _) (by rw [hz2]; omega) (by omega)
    simpa [hz1, Value.cells] using h
  clear hz0 hz1 hz2
  go_enter Try.func25, Try.ntmps25
  go_wp2
  clear hmk
  go_loopw [0, 4] (fun x i wr => ∃ j q : Nat, j ≤ 8 ∧ i = .int .i64 ((j : Int) - 1) ∧ x = .int .u64 q ∧ q ≤ n ∧ Hid (q = n / 256 ^ (8 - j)) ∧ wr.ownsRow w.heap.size 5 1 (.slice (some ⟨w.heap.size, 0, none⟩) 8 8) 8 (rowB 8 n j) ∧
      Below w.heap.size w wr ∧ w.heap.size < wr.heap.size) (fun _ i _ => (intOf i + 1).toNat)
  case atStart =>
    refine ⟨8, n, Nat.le_refl _, rfl, rfl, Nat.le_refl _, ?_, ?_, ?_, ?_⟩
    · show n = _
      rw [Nat.sub_self, Nat.pow_zero, Nat.div_one]
    · have h := World.ownsRow_lit (base := w.heap.size) (e := 5) (size := 1) w (madeCells #[.int .u8 0] 8) 8 (Nat.le_refl _) (by unfold maxLen; omega) (by rw [size_madeCells])
      rw [rowB_start 8 n] at h
      exact h
    · go_grown
    · simp
  case round =>
    obtain ⟨j, q, hj, rfl, rfl, hqn, hq, hrow, hbel, hsz⟩ := hrel
    have HR := Lib.hid hrow
    rcases Nat.eq_zero_or_pos j with rfl | hpos
    · have hcv := string_of_row (Pl.be_length 8 n) (rowB_end 8 n ▸ hrow)
      clear hrow
      go_wp2
      go_ret
      exact ⟨rfl, hbel⟩
    · obtain ⟨k, rfl⟩ : ∃ k, j = k + 1 := ⟨j - 1, by omega⟩
      have hck := hrow.cellAt k (by omega)
      have hfk := hrow.frozenAt k
      rw [rowB_get 8 n k] at hck
      clear hrow
      have hst := (HR.out.stored k (.int .u8 (n / 256 ^ (8 - 1 - k) % 256 : Nat))).1
      rw [rowB_set 8 n k (by omega), show 8 - 1 - k = 8 - (k + 1) from by omega, ← hq.out] at hst
      have HS := Lib.hid hst
      clear hst
      have e1 : ((k + 1 : Nat) : Int) - 1 = (k : Int) := by omega
      rw [e1]
      clear e1
      go_wp2
      refine ⟨⟨k, q / 256, by omega, rfl, ?_, by omega, ?_, ?_, hbel.setCell (Nat.le_refl _) _, by simpa using hsz⟩, by simp [intOf]⟩
      · rfl
      · show q / 256 = _
        rw [hq.out, Nat.div_div_eq_div_mul, ← Nat.pow_succ]
        congr 2
        omega
      · exact HS.out

end Go.Proofs.Ythleobklagjlbaa
