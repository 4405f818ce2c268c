/-
  What the program's octet.number computes: the number that the bytes are. Condition: the bytes stand there, at most eight of them.
-/
import Derived.Test.YteogichfophngaaProg
import Derived.Test.YteogichfophngaaPl
import Derived.WalkKit
import Derived.WalkSpells
import Derived.WalkLawsBesides
import Derived.Handy
import Derived.PlainAid
import Derived.Outline
import Derived.Lib.ConvBytes
import Derived.Lib.Hide
import Derived.Laws.BytesArg
namespace Go.Proofs.Yteogichfophngaa
open Go.RowKit

/-- a call's part of the world's growth laid onto what was known -/
theorem bstep {w a b : World} (h : Below w.heap.size w a) (k : Below a.heap.size a b) : Below w.heap.size w b := h.trans (k.mono h.size)

/-- a new block and some draws turn nothing that was there -/
theorem bdrew {B : Nat} {a w : World} (h : Below B a w) (n : Nat) : Below B a (w.drewN n) := h.trans ⟨rfl, rfl, rfl, Nat.le_refl _, fun _ _ => rfl⟩
theorem bbox (w : World) (o : Obj) (n : Nat) : Below w.heap.size w ((w.alloc o).drewN n) := bdrew ((Below.refl _ _).alloc (Nat.le_refl _) o) n

theorem ret_int {k : IntKind} {a b : Int} (h : a = b) : Ending.returned (.int k a) = .returned (.int k b) := by rw [h]

theorem ba_append (a b : List UInt8) : (⟨a.toArray⟩ : ByteArray) ++ ⟨b.toArray⟩ = ⟨(a ++ b).toArray⟩ := by
  apply ByteArray.ext
  simp [ByteArray.data_append]

theorem ba_extract (s : ByteArray) (a n : Nat) : (s.extract a (a + n)).data.toList = (s.data.toList.drop a).take n := by
  simp [ByteArray.data_extract]

theorem num_take (l : List UInt8) (k : Nat) (h : k < l.length) : Pl.num (l.take (k + 1)) = 256 * Pl.num (l.take k) + (l.getD k 0).toNat := by
  rw [List.take_succ_eq_append_getElem h, Pl.num_snoc]
  simp [List.getD, h]

theorem num_take_lt (l : List UInt8) (k n : Nat) (hk : k ≤ n) (hn : n ≤ 7) : Pl.num (l.take k) < 72057594037927936 := by
  have h1 := Pl.num_lt (l.take k)
  have h2 : (l.take k).length ≤ 7 := by rw [List.length_take]; omega
  have h3 : 256 ^ (l.take k).length ≤ 256 ^ 7 := Nat.pow_le_pow_right (by decide) h2
  have h4 : 256 ^ 7 = 72057594037927936 := by decide
  omega

theorem or_byte (m : Nat) (b : UInt8) (hm : m < 72057594037927936) :
    bits BinOp.or IntKind.u64 ((m : Int) * 256) (IntKind.u64.wrap (b.toNat : Int)) = ((256 * m + b.toNat : Nat) : Int) := by
  have hb := b.toNat_lt
  have e1 : IntKind.u64.wrap (b.toNat : Int) = (b.toNat : Int) := IntWalk.u64_in _ ⟨by omega, by omega⟩
  have e2 : ((m : Int) * 256) = ((m * 256 : Nat) : Int) := by omega
  rw [e1, e2, u64_or_nat _ _ (by omega) (by omega), nat_join 8 _ _ (by omega) hb]
  omega

set_option maxHeartbeats 400000 in
theorem number_any (s : ByteArray) (a n : Nat) (hs : s.size ≤ 9223372036854775807) (h : a + n ≤ s.size) (hn : n ≤ 8) (w : World) :
    Calls Try.prog 22 #[.string s, .int .i64 a, .int .i64 n] w fun e w' => e = .returned (.int .u64 (Pl.num ((s.data.toList.drop a).take n))) ∧ Below w.heap.size w w' := by
  have hc := fun (w : World) (s : ByteArray) => Lib.run_convert_string_bytes (P := Try.prog) w 9 47 5 s Try.underlying9 Try.underlying47 Try.underlying5
  go_enter Try.func22, Try.ntmps22
  go_wp2
  have hsz : (s.extract a (a + n)).size = n := by simp [ByteArray.size_extract]; omega
  have hcell : ∀ j, j < n → (Lib.bytesWorld w 5 (s.extract a (a + n))).cell? ⟨w.heap.size, j, none⟩ = some (.int .u8 (((s.data.toList.drop a).take n).getD j 0).toNat) := by
    intro j hj
    rw [Lib.bytesWorld_cell _ _ _ _ (by omega), ba_extract]
  have hb : Below w.heap.size w (Lib.bytesWorld w 5 (s.extract a (a + n))) := ⟨rfl, rfl, rfl, by rw [Lib.bytesWorld_size]; omega, fun j hj => Lib.bytesWorld_at_old _ _ _ _ hj⟩
  have hl : ((s.data.toList.drop a).take n).length = n := by
    have e : s.data.toList.length = s.size := by rw [Array.length_toList]; rfl
    rw [List.length_take, List.length_drop]; omega
  generalize Lib.bytesWorld w 5 (s.extract a (a + n)) = wb at *
  obtain ⟨l, el⟩ : ∃ l, l = (s.data.toList.drop a).take n := ⟨_, rfl⟩
  rw [← el] at hcell hl
  have HE := Lib.hid el
  clear el
  have HL := Lib.hid hl
  have HC := Lib.hid hcell
  clear hc hsz hcell hl
  go_loop [6, 17] (fun m i => ∃ k : Nat, k ≤ n ∧ i = .int .i64 k ∧ m = .int .u64 (Pl.num (l.take k))) (fun _ i => n - (intOf i).toNat)
  case atStart => exact ⟨0, Nat.zero_le _, rfl, rfl⟩
  case round =>
    obtain ⟨k, hk, rfl, rfl⟩ := hrel
    by_cases hlt : k < n
    · have h1 := HC.out k hlt
      have h2 := num_take_lt l k (n - 1) (by omega) (by omega)
      go_wp2
      refine ⟨⟨k + 1, by omega, by go_num, ?_⟩, by simp [intOf]; omega⟩
      rw [num_take _ _ (by rw [HL.out]; omega)]
      exact congrArg _ (or_byte _ _ h2)
    · go_wp2
      go_ret
      exact ⟨ret_int (by rw [← HE.out, List.take_of_length_le (by rw [HL.out]; omega)]), hb⟩
end Go.Proofs.Yteogichfophngaa
