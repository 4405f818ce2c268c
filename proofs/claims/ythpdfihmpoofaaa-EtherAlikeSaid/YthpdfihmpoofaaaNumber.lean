/-
  What octet.number computes: the number that the bytes are. Condition: the bytes stand there, at most eight of them.
-/
import Derived.Test.YthpdfihmpoofaaaBase
namespace Go.Proofs.Ythpdfihmpoofaaa
open Go.RowKit

set_option maxHeartbeats 400000 in
theorem number_any (s : ByteArray) (a n : Nat) (hs : s.size ≤ 9223372036854775807) (h : a + n ≤ s.size) (hn : n ≤ 8) (w : World) :
    Calls Try.prog 30 #[.string s, .int .i64 a, .int .i64 n] w fun e w' => e = .returned (.int .u64 (Pl.num ((s.data.toList.drop a).take n))) ∧ Below w.heap.size w w' := by
  have hc := fun (w : World) (s : ByteArray) => Lib.run_convert_string_bytes (P := Try.prog) w 9 41 5 s Try.underlying9 Try.underlying41 Try.underlying5
  go_enter Try.func30, Try.ntmps30
  go_wp2
  have hsz : (s.extract a (a + n)).size = n := by simp [ByteArray.size_extract]; omega
  have hcell : ∀ j, j < n → (Lib.bytesWorld w 5 (s.extract a (a + n))).cell? ⟨w.heap.size, j, none⟩ = some (.int .u8 (((s.data.toList.drop a).take n).getD j 0).toNat) := by
    intro j hj
    rw [Lib.bytesWorld_cell _ _ _ _ (by omega), ba_extract]
  have hb : Below w.heap.size w (Lib.bytesWorld w 5 (s.extract a (a + n))) := ⟨rfl, rfl, rfl, by rw [Lib.bytesWorld_size]; omega, fun j hj => Lib.bytesWorld_at_old _ _ _ _ hj⟩
  have hl : ((s.data.toList.drop a).take n).length = n := by
    have e : s.data.toList.length = s.size := by rw [Array.length_toList]; rfl
    rw [List.length_take, List.length_drop]; omega
  generalize Lib.bytesWorld w 5 (s.extract a (a + n)) = wb at *
  obtain ⟨l, el⟩ : ∃ l, l = (s.data.toList.drop a).take n := ⟨_, rfl⟩
  rw [← el] at hcell hl
  have HE := Lib.hid el
  clear el
  have HL := Lib.hid hl
  have HC := Lib.hid hcell
  clear hc hsz hcell hl
  go_loop [6, 17] (fun m i => ∃ k : Nat, k ≤ n ∧ i = .int .i64 k ∧ m = .int .u64 (Pl.num (l.take k))) (fun _ i => n - (intOf i).toNat)
  case atStart => exact ⟨0, Nat.zero_le _, rfl, rfl⟩
  case round =>
    obtain ⟨k, hk, rfl, rfl⟩ := hrel
    by_cases hlt : k < n
    · have h1 := HC.out k hlt
      have h2 := num_take_lt l k (n - 1) (by omega) (by omega)
      go_wp2
      refine ⟨⟨k + 1, by omega, by go_num, ?_⟩, by simp [intOf]; omega⟩
      rw [num_take _ _ (by rw [HL.out]; omega)]
      exact congrArg _ (or_byte _ _ h2)
    · go_wp2
      go_ret
      exact ⟨ret_int (by rw [← HE.out, List.take_of_length_le (by rw [HL.out]; omega)]), hb⟩

theorem number8 (s : ByteArray) (a : Nat) (hs : s.size ≤ 9223372036854775807) (h : a + 8 ≤ s.size) (w : World) :
    Calls Try.prog 30 #[.string s, .int .i64 a, .int .i64 8] w fun e w' => e = .returned (.int .u64 (Pl.num ((s.data.toList.drop a).take 8))) ∧ Below w.heap.size w w' :=
  number_any s a 8 hs h (by omega) w

end Go.Proofs.Ythpdfihmpoofaaa
