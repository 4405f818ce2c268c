/-
  What all walks share: small laws on endings, worlds, byte arrays. No function of the program is walked here. Conditions: none.
-/
import Derived.Test.YthpdfihmpoofaaaProg
import Derived.Test.YthpdfihmpoofaaaPl
import Derived.WalkKit
import Derived.WalkSpells
import Derived.WalkLawsBesides
import Derived.Handy
import Derived.PlainAid
import Derived.Outline
import Derived.Lib.ConvBytes
import Derived.Lib.Hide
import Derived.Laws.BytesArg
import Derived.BigQuiet
import Derived.Deep.QuietTactic
import Derived.Deep.DeepCutAuto
namespace Go.Proofs.Ythpdfihmpoofaaa
open Go.RowKit

/-- a call's part of the world's growth laid onto what was known -/
theorem bstep {w a b : World} (h : Below w.heap.size w a) (k : Below a.heap.size a b) : Below w.heap.size w b := h.trans (k.mono h.size)

/-- a new block and some draws turn nothing that was there -/
theorem bdrew {B : Nat} {a w : World} (h : Below B a w) (n : Nat) : Below B a (w.drewN n) := h.trans ⟨rfl, rfl, rfl, Nat.le_refl _, fun _ _ => rfl⟩

/-- old cells, old marks: as they were -/
theorem bcell {W w1 : World} (hb : Below W.heap.size W w1) : (∀ b o, b < W.heap.size → w1.cell? ⟨b, o, none⟩ = W.cell? ⟨b, o, none⟩) ∧ (∀ b o, b < W.heap.size → w1.frozen? ⟨b, o, none⟩ = W.frozen? ⟨b, o, none⟩) :=
  ⟨fun b o h => hb.cell (p := ⟨b, o, none⟩) h, fun b o h => hb.frozen (p := ⟨b, o, none⟩) h⟩
theorem bbox1 (w : World) (o : Obj) : Below w.heap.size w (w.alloc o) := (Below.refl _ _).alloc (Nat.le_refl _) o
theorem bbox (w : World) (o : Obj) (n : Nat) : Below w.heap.size w ((w.alloc o).drewN n) := bdrew ((Below.refl _ _).alloc (Nat.le_refl _) o) n

theorem ret_int {k : IntKind} {a b : Int} (h : a = b) : Ending.returned (.int k a) = .returned (.int k b) := by rw [h]

theorem ret_bool {a b : Bool} (h : a = b) : Ending.returned (.bool a) = .returned (.bool b) := by rw [h]

theorem ba_append (a b : List UInt8) : (⟨a.toArray⟩ : ByteArray) ++ ⟨b.toArray⟩ = ⟨(a ++ b).toArray⟩ := by
  apply ByteArray.ext
  simp [ByteArray.data_append]

theorem ba_eq {a b : ByteArray} (h : a.data.toList = b.data.toList) : a = b := ByteArray.ext (Array.toList_inj.1 h)

theorem ba_extract (s : ByteArray) (a n : Nat) : (s.extract a (a + n)).data.toList = (s.data.toList.drop a).take n := by
  simp [ByteArray.data_extract]

theorem data_extract (s : ByteArray) (a b : Nat) : (s.extract a b).data.toList = (s.data.toList.drop a).take (b - a) := by
  simp [ByteArray.data_extract]

theorem size_toList (s : ByteArray) : s.data.toList.length = s.size := by rw [Array.length_toList]; rfl

theorem data_add (a b : ByteArray) : (a ++ b).data.toList = a.data.toList ++ b.data.toList := by simp [ByteArray.data_append]

theorem size_add (a b : ByteArray) : (a ++ b).size = a.size + b.size := by rw [← size_toList, data_add, List.length_append, size_toList, size_toList]

theorem size_mk (l : List UInt8) : (⟨l.toArray⟩ : ByteArray).size = l.length := by simp [ByteArray.size]

theorem size_cut (s : ByteArray) (a n : Nat) (h : a + n ≤ s.size) : (s.extract a (a + n)).size = n := by
  rw [← size_toList, data_extract, List.length_take, List.length_drop, size_toList]; omega

/-- what stands behind a text's beginning -/
theorem mid (a : ByteArray) (v : List UInt8) (b : ByteArray) (k : Nat) (hk : v.length = k) : (((a ++ ⟨v.toArray⟩ ++ b).data.toList.drop a.size).take k) = v := by
  rw [data_add, data_add, List.append_assoc, List.drop_left' (by rw [size_toList]), List.take_left' (by simpa using hk)]

theorem mid' (a : ByteArray) (v : List UInt8) (k : Nat) (hk : v.length = k) : (((a ++ ⟨v.toArray⟩).data.toList.drop a.size).take k) = v := by
  rw [data_add, List.drop_left' (by rw [size_toList])]
  simp [← hk]

theorem num_take (l : List UInt8) (k : Nat) (h : k < l.length) : Pl.num (l.take (k + 1)) = 256 * Pl.num (l.take k) + (l.getD k 0).toNat := by
  rw [List.take_succ_eq_append_getElem h, Pl.num_snoc]
  simp [List.getD, h]

theorem num_take_lt (l : List UInt8) (k n : Nat) (hk : k ≤ n) (hn : n ≤ 7) : Pl.num (l.take k) < 72057594037927936 := by
  have h1 := Pl.num_lt (l.take k)
  have h2 : (l.take k).length ≤ 7 := by rw [List.length_take]; omega
  have h3 : 256 ^ (l.take k).length ≤ 256 ^ 7 := Nat.pow_le_pow_right (by decide) h2
  have h4 : 256 ^ 7 = 72057594037927936 := by decide
  omega

theorem or_byte (m : Nat) (b : UInt8) (hm : m < 72057594037927936) :
    bits BinOp.or IntKind.u64 ((m : Int) * 256) (IntKind.u64.wrap (b.toNat : Int)) = ((256 * m + b.toNat : Nat) : Int) := by
  have hb := b.toNat_lt
  have e1 : IntKind.u64.wrap (b.toNat : Int) = (b.toNat : Int) := IntWalk.u64_in _ ⟨by omega, by omega⟩
  have e2 : ((m : Int) * 256) = ((m * 256 : Nat) : Int) := by omega
  rw [e1, e2, u64_or_nat _ _ (by omega) (by omega), nat_join 8 _ _ (by omega) hb]
  omega

theorem ofInt_nat64 (a : Nat) (ha : a < 18446744073709551616) : (BitVec.ofInt 64 (a : Int)).toNat = a := by
  rw [BitVec.ofInt_natCast, BitVec.toNat_ofNat]; exact Nat.mod_eq_of_lt (by omega)
theorem i64_and_nat (a b : Nat) (ha : a < 9223372036854775808) (hb : b < 9223372036854775808) : bits .and .i64 (a : Int) (b : Int) = ((a &&& b : Nat) : Int) := by
  have hx : a &&& b < 2 ^ 63 := Nat.and_lt_two_pow _ (by omega)
  show IntKind.i64.wrap ((BitVec.ofInt 64 (a : Int) &&& BitVec.ofInt 64 (b : Int)).toNat : Int) = _
  rw [BitVec.toNat_and, ofInt_nat64 a (by omega), ofInt_nat64 b (by omega), IntKind.wrap_i64]
  omega
theorem i64_or_nat (a b : Nat) (ha : a < 9223372036854775808) (hb : b < 9223372036854775808) : bits .or .i64 (a : Int) (b : Int) = ((a ||| b : Nat) : Int) := by
  have hx : a ||| b < 2 ^ 63 := Nat.or_lt_two_pow (by omega) (by omega)
  show IntKind.i64.wrap ((BitVec.ofInt 64 (a : Int) ||| BitVec.ofInt 64 (b : Int)).toNat : Int) = _
  rw [BitVec.toNat_or, ofInt_nat64 a (by omega), ofInt_nat64 b (by omega), IntKind.wrap_i64]
  omega
/-- a byte laid beside a number that is a multiple of 256 -/
theorem i64_or_byte (m : Nat) (b : Nat) (hm : m < 36028797018963968) (hb : b < 256) : bits .or .i64 ((m : Int) * 256) (b : Int) = ((256 * m + b : Nat) : Int) := by
  rw [show ((m : Int) * 256) = ((m * 256 : Nat) : Int) from by omega, i64_or_nat _ _ (by omega) (by omega), nat_join 8 _ _ (by omega) (by omega)]
  omega

theorem num4 (l : List UInt8) (n : Nat) (h4 : n ≤ 4) : Pl.num (l.take n) < 4294967296 := by
  have h1 := Pl.num_lt (l.take n)
  have h3 : 256 ^ (l.take n).length ≤ 256 ^ 4 := Nat.pow_le_pow_right (by decide) (by rw [List.length_take]; omega)
  have h4 : 256 ^ 4 = 4294967296 := by decide
  omega

theorem shr_nat (n m : Nat) : ((n : Int) / 2 ^ (8 * m)) = ((n / 256 ^ m : Nat) : Int) := by
  rw [Int.pow_mul, Int.natCast_ediv, Int.natCast_pow]
  rfl

/-- a round of the reader: the next byte -/
theorem num_step (s : ByteArray) (a n k : Nat) (h : a + n ≤ s.size) (hk : k < n) (hb : a + k < s.size) :
    Pl.num (((s.data.toList.drop a).take n).take (k + 1)) = 256 * Pl.num (((s.data.toList.drop a).take n).take k) + (s[a + k]'hb).toNat := by
  have e : s.data.toList.length = s.size := by rw [Array.length_toList]; rfl
  rw [num_take _ _ (by rw [List.length_take, List.length_drop]; omega)]
  congr 2
  rw [List.getD_eq_getElem?_getD, List.getElem?_take_of_lt hk, List.getElem?_drop, List.getElem?_eq_getElem (by omega)]
  rfl

theorem wrap_step (q : Nat) (b : UInt8) (hq : q < 16777216) : wrap64 (256 * (q : Int) + wrap64 (b.toNat : Int)) = ((256 * q + b.toNat : Nat) : Int) := by
  have hb := b.toNat_lt
  rw [IntWalk.wrap64_in (b.toNat : Int) ⟨by omega, by omega⟩, IntWalk.wrap64_in _ ⟨by omega, by omega⟩]
  omega

theorem wrapu_step (q : Nat) (b : UInt8) (hq : q < 72057594037927936) : IntKind.u64.wrap (256 * (q : Int) + IntKind.u64.wrap (b.toNat : Int)) = ((256 * q + b.toNat : Nat) : Int) := by
  have hb := b.toNat_lt
  rw [IntWalk.u64_in (b.toNat : Int) ⟨by omega, by omega⟩, IntWalk.u64_in _ ⟨by omega, by omega⟩]
  omega

theorem info5 : (Try.prog.info? 5).map (fun i => (i.zero, i.size, i.bytes)) = some (some (.int .u8 0), 1, 1) := by kernel_rfl

/-- what a slice of bytes that the call owns reads as a string -/
theorem string_of_row {w : World} {g m : Nat} {l : List UInt8} (hl : l.length = m) (h : w.ownsRow g 5 1 (.slice (some ⟨g, 0, none⟩) m m) m (l.map fun b : UInt8 => Value.int .u8 b.toNat)) :
    (convert 41 9 (.slice (some ⟨g, 0, none⟩) m m)).run Try.prog w = .ok (.string ⟨l.toArray⟩) w := by
  have hx := run_convert_bytes_arg (P := Try.prog) w 41 5 Try.underlying41 Try.underlying5 g 0 m m (l.map fun b : UInt8 => (b.toNat : Int)) (by simpa using hl)
    (fun i hi => by
      rw [Nat.zero_add, h.cellAt i (by omega)]
      simp [List.getD, hl ▸ hi]) 9 Try.underlying9
  rw [hx]
  congr 2
  apply ByteArray.ext
  apply Array.toList_inj.1
  rw [strOfNums_data, List.map_map]
  have e : ((fun n : Int => UInt8.ofNat n.toNat) ∘ fun b : UInt8 => (b.toNat : Int)) = id := by
    funext b; simp
  rw [e, List.map_id]

/-- the two cuts and the three joinings of Fill, each in whatever world -/
theorem cut_to (s : ByteArray) (a : Nat) (h : a ≤ s.size) (w : World) : (Instr.slice 9 (.string s) none (some (.int .i64 (a : Int))) none).run Try.prog w = .ok (.string (s.extract 0 a)) w := by
  rw [run_slice_string_to_if (P := Try.prog) w 9 s .i64 (a : Int) Try.underlying9, if_pos ⟨by omega, by omega⟩]
  rfl
theorem cut_from (s : ByteArray) (a : Nat) (h : a + 2 ≤ s.size) (w : World) : (Instr.slice 9 (.string s) (some (.int .i64 ((a : Int) + 2))) none none).run Try.prog w = .ok (.string (s.extract (a + 2) s.size)) w := by
  rw [run_slice_string_from_if (P := Try.prog) w 9 s .i64 ((a : Int) + 2) Try.underlying9, if_pos ⟨by omega, by omega⟩, show ((a : Int) + 2).toNat = a + 2 from by omega]
theorem join2 (x y : ByteArray) (h : x.size + y.size ≤ 9223372036854775807) (w : World) : (Op.stringOp .add x y).run Try.prog w = .ok (.string (x ++ y)) w := run_string_add_sum (P := Try.prog) w x y h

end Go.Proofs.Ythpdfihmpoofaaa
