/-
  What octet.bytes computes: so many bytes of a number, the greatest first. Condition: at most eight bytes.
-/
import Derived.Test.YthpdfihmpoofaaaBase
namespace Go.Proofs.Ythpdfihmpoofaaa
open Go.RowKit

set_option maxHeartbeats 400000 in
theorem byteOf_any (n i m : Nat) (hi : i < m) (hm : m ≤ 8) (A B : Nat) (w : World) (h1 : w.cell? ⟨A, 0, none⟩ = some (.int .u64 n)) (h2 : w.cell? ⟨B, 0, none⟩ = some (.int .i64 m)) :
    Calls Try.prog 37 #[.int .i64 i, .pointer (some ⟨A, 0, none⟩), .pointer (some ⟨B, 0, none⟩)] w fun e w' => e = .returned (.int .u8 (n / 256 ^ (m - 1 - i) % 256 : Nat)) ∧ w = w' := by
  have e : (2 : Int) ^ (8 * (m - 1 - i)) = ((256 ^ (m - 1 - i) : Nat) : Int) := by rw [Int.pow_mul]; norm_cast
  have E := Lib.hid e
  clear e
  go_enter Try.func37, Try.ntmps37
  go_wp2
  have e := E.out
  go_ret
  exact ⟨ret_int (by rw [e, Int.natCast_emod, Int.natCast_ediv]; rfl), rfl⟩

/-- the cells behind k rounds -/
def rowAt (m n k : Nat) : List Value := (((Pl.be m n).take k ++ List.replicate (m - k) 0).map fun b : UInt8 => Value.int .u8 b.toNat)

theorem rowAt_zero (m n : Nat) : (madeCells #[Value.int .u8 0] m).toList = rowAt m n 0 := by
  simp only [rowAt, List.take_zero, List.nil_append, Nat.sub_zero, madeCells]
  apply List.ext_getElem?
  intro j
  by_cases h : j < m
  · simp [h, Nat.mod_one]
  · simp [h]

theorem rowAt_get (m n k : Nat) (h : k < m) : (rowAt m n k)[k]? = some (.int .u8 0) := by
  have hl := Pl.be_length m n
  simp only [rowAt, List.getElem?_map]
  rw [List.getElem?_append_right (by rw [List.length_take]; omega), List.length_take]
  have e : k - min k (Pl.be m n).length = 0 := by omega
  rw [e]
  have e2 : m - k = (m - k - 1) + 1 := by omega
  rw [e2, List.replicate_succ]
  simp

theorem rowAt_set (m n k : Nat) (h : k < m) : (rowAt m n k).set k (.int .u8 (n / 256 ^ (m - 1 - k) % 256 : Nat)) = rowAt m n (k + 1) := by
  have hl := Pl.be_length m n
  have hg := Pl.be_get m n k h
  have hk : k < (Pl.be m n).length := by omega
  have ek : (Pl.be m n)[k] = UInt8.ofNat (n / 256 ^ (m - 1 - k) % 256) := by
    rw [List.getElem?_eq_getElem hk] at hg
    exact Option.some.inj hg
  have e2 : m - k = (m - (k + 1)) + 1 := by omega
  simp only [rowAt]
  rw [List.take_succ_eq_append_getElem hk, ek, e2, List.replicate_succ, List.map_append, List.set_append_right _ _ (by simp; omega)]
  have e3 : k - (List.map (fun b : UInt8 => Value.int .u8 b.toNat) (List.take k (Pl.be m n))).length = 0 := by simp; omega
  rw [e3]
  simp

theorem rowAt_all (m n : Nat) : rowAt m n m = (Pl.be m n).map fun b : UInt8 => Value.int .u8 b.toNat := by
  simp only [rowAt, Nat.sub_self, List.replicate_zero, List.append_nil]
  rw [List.take_of_length_le (by rw [Pl.be_length]; omega)]

set_option maxHeartbeats 400000 in
theorem bytes_any (n m : Nat) (hm : m ≤ 8) (w : World) :
    Calls Try.prog 33 #[.int .u64 n, .int .i64 m] w fun e w' => e = .returned (.string ⟨(Pl.be m n).toArray⟩) ∧ Below w.heap.size w w' := by
  obtain ⟨i0, hi, hz0, hz1, hz2⟩ := info_parts info5
  have hmk : ∀ u : World, (Instr.makeSlice 41 (.int .i64 (m : Int)) (.int .i64 (m : Int))).run Try.prog u =
      .ok (.slice (some ⟨u.heap.size, 0, none⟩) m m) (u.alloc (.cells (madeCells #[.int .u8 0] m) 5)) := fun u => by
    have h := run_make (P := Try.prog) u 41 5 i0 (.int .u8 0) Try.underlying41 hi hz0 .i64 .i64 (m : Int) (m : Int) (by omega) (Int.le_refl _) (by rw [hz2]; omega) (by omega)
    simpa [hz1, Value.cells] using h
  have H1 := Lib.hid hz1
  have H2 := Lib.hid hz2
  have H3 := Lib.hid hz0
  clear hz0 hz1 hz2
  go_enter Try.func33, Try.ntmps33
  go_wp2
  clear hmk
  go_loopw [13] (fun i wr => ∃ k : Nat, k ≤ m ∧ i = .int .i64 k ∧ wr.ownsRow (w.heap.size + 2) 5 1 (.slice (some ⟨w.heap.size + 2, 0, none⟩) m m) m (rowAt m n k) ∧
      wr.cell? ⟨w.heap.size, 0, none⟩ = some (.int .u64 n) ∧ wr.cell? ⟨w.heap.size + 1, 0, none⟩ = some (.int .i64 m) ∧ Below w.heap.size w wr ∧ w.heap.size + 2 < wr.heap.size) (fun i _ => m - (intOf i).toNat)
  case atStart =>
    refine ⟨0, Nat.zero_le _, rfl, ?_, ?_, ?_, ?_, ?_⟩
    · have h := World.ownsRow_lit (base := w.heap.size + 2) (e := 5) (size := 1) ((w.alloc (.cells #[.int .u64 n] 62)).alloc (.cells #[.int .i64 m] 3)) (madeCells #[.int .u8 0] m) m (by simp) (by unfold maxLen; omega) (by rw [size_madeCells]; omega)
      rw [rowAt_zero m n] at h
      simpa using h
    · go_simp
    · go_simp
    · go_grown
    · simp
  case round =>
    obtain ⟨k, hk, rfl, hrow, hA, hB, hbel, hsz⟩ := hrel
    have HR := Lib.hid hrow
    by_cases hlt : k < m
    · have hck := hrow.cellAt k (by omega)
      have hfk := hrow.frozenAt k
      rw [rowAt_get m n k hlt] at hck
      clear hrow
      go_wp2_with ((with_reducible refine (byteOf_any n k m hlt hm _ _ _ hA hB).mono ?_); rintro e w' ⟨rfl, rfl⟩)
      have hst := (HR.out.stored k (.int .u8 (n / 256 ^ (m - 1 - k) % 256 : Nat))).1
      rw [rowAt_set m n k hlt] at hst
      refine ⟨⟨k + 1, by omega, by go_num, ?_, ?_, ?_, ?_, ?_⟩, by simp [intOf]; omega⟩
      · rw [Int.natCast_emod, Int.natCast_ediv, Int.natCast_pow] at hst
        exact hst
      · go_simp
      · go_simp
      · exact hbel.setCell (by simp; omega) _
      · simpa using hsz
    · have hkm : k = m := by omega
      subst hkm
      have hcv := string_of_row (Pl.be_length k n) (rowAt_all k n ▸ hrow)
      have HK := Lib.hid hcv
      clear hrow
      go_wp2
      go_ret
      exact ⟨rfl, hbel⟩

theorem bytes8 (n : Nat) (w : World) :
    Calls Try.prog 33 #[.int .u64 n, .int .i64 8] w fun e w' => e = .returned (.string ⟨(Pl.be 8 n).toArray⟩) ∧ Below w.heap.size w w' :=
  bytes_any n 8 (by omega) w

end Go.Proofs.Ythpdfihmpoofaaa
