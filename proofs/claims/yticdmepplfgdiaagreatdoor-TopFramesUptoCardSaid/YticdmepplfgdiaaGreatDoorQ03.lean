/-
  What all walks share: small laws on endings, worlds, byte arrays. No function of the program is walked here. Conditions: none. A row of bytes in memory that reads as a list: made out of a text, written byte by byte, read as a text again. Conditions: none. What octet.bytes computes: so many bytes of a number, the greatest first. Condition: at most eight bytes. The answers of Get, Wide, Cut and Put in one form each, and how they part. No program in sight. Conditions: none. What octet.Put computes. Condition: the number is one of its kind. What octet.number computes: the number that the bytes are. Condition: the bytes stand there, at most eight of them. The cells that the reference's Put and Eight write, round by round. No program in sight. Conditions: none. What the reference's Put (siphonref01) computes. Condition: the number is one of its kind. What octet.stands tells. Condition: the text's length fits an int. What octet.Get computes. Condition: the text's length fits an int. What octet.Wide computes. Condition: the text's length fits an int. What octet.Cut computes. Condition: the text's length fits an int. A block's cells as a list of values; worlds that differ in some blocks alone. Conditions: none. Lists of numbers and of ports in memory. Conditions: those of each. What octet.Eight computes. Condition: the number is one of its kind. What siphonlaw23.Config computes: the same config. Conditions: its costs and ports are slices. Maps that are small and written out: what a look-up and a store do. Conditions: those of each. Slices of numbers that a call makes by appending. Conditions: none. What the small functions on the switch's road compute. Conditions: none but those said. What vlan.fine and the document's own rises and Member compute. Conditions: lists' lengths lie well within an int. What the reference's Of (siphonref01) computes: the bytes of a number that fits. Condition: one to four bytes, and the number fits. Whether a call of the switch does anything, and whether an empty address may be its own. Conditions: the time is one. Rows of one's own: one thing appended, whatever its size; the others' blocks meanwhile. Conditions: none. A wheel of timers and questions that wait, both empty: Len, Next and Due. Conditions: nothing waits. Loops over empty maps: router's forget and Expire, fdb's take, Expire and Flush. Conditions: the maps are empty. What the document's own At and Of (siphonref01) compute, as facts that a walk does not look into. Conditions: those of each. What the makers of the switch's parts make: fdb.New, router.New, wheel.New. Conditions: the arguments are those of the small net.
-/
import Derived.Test.YticdmepplfgdiaaGreatDoorProg
import Derived.WalkKit
import Derived.WalkSpells
import Derived.WalkLawsBesides
import Derived.Handy
import Derived.PlainAid
import Derived.Outline
import Derived.Lib.ConvBytes
import Derived.Lib.Hide
import Derived.Laws.BytesArg
import Derived.BigQuiet
import Derived.Deep.QuietTactic
import Derived.Deep.DeepCutAuto
import Derived.WideLaws
import Derived.MapKept
import Derived.Laws.IdiomRangeMap
import Derived.Carry
import Derived.Test.YticdmepplfgdiaaGreatDoorQ00
set_option linter.unusedVariables false
set_option linter.unusedSimpArgs false
section
namespace Go.Proofs.YticdmepplfgdiaaGreatDoor
open Go.RowKit
/-- a call's part of the world's growth laid onto what was known -/
theorem bstep {w a b : World} (h : Below w.heap.size w a) (k : Below a.heap.size a b) : Below w.heap.size w b := h.trans (k.mono h.size)
/-- a new block and some draws turn nothing that was there -/
theorem bdrew {B : Nat} {a w : World} (h : Below B a w) (n : Nat) : Below B a (w.drewN n) := h.trans ⟨rfl, rfl, rfl, Nat.le_refl _, fun _ _ => rfl⟩
/-- old cells, old marks: as they were -/
theorem bcell {W w1 : World} (hb : Below W.heap.size W w1) : (∀ b o, b < W.heap.size → w1.cell? ⟨b, o, none⟩ = W.cell? ⟨b, o, none⟩) ∧ (∀ b o, b < W.heap.size → w1.frozen? ⟨b, o, none⟩ = W.frozen? ⟨b, o, none⟩) :=
  ⟨fun b o h => hb.cell (p := ⟨b, o, none⟩) h, fun b o h => hb.frozen (p := ⟨b, o, none⟩) h⟩
theorem bbox1 (w : World) (o : Obj) : Below w.heap.size w (w.alloc o) := (Below.refl _ _).alloc (Nat.le_refl _) o
theorem ret_int {k : IntKind} {a b : Int} (h : a = b) : Ending.returned (.int k a) = .returned (.int k b) := by rw [h]
theorem ret_bool {a b : Bool} (h : a = b) : Ending.returned (.bool a) = .returned (.bool b) := by rw [h]
theorem ba_append (a b : List UInt8) : (⟨a.toArray⟩ : ByteArray) ++ ⟨b.toArray⟩ = ⟨(a ++ b).toArray⟩ := by
  apply ByteArray.ext
  simp [ByteArray.data_append]
theorem ba_eq {a b : ByteArray} (h : a.data.toList = b.data.toList) : a = b := ByteArray.ext (Array.toList_inj.1 h)
theorem ba_extract (s : ByteArray) (a n : Nat) : (s.extract a (a + n)).data.toList = (s.data.toList.drop a).take n := by
  simp [ByteArray.data_extract]
theorem data_extract (s : ByteArray) (a b : Nat) : (s.extract a b).data.toList = (s.data.toList.drop a).take (b - a) := by
  simp [ByteArray.data_extract]
theorem size_toList (s : ByteArray) : s.data.toList.length = s.size := by rw [Array.length_toList]; rfl
theorem data_add (a b : ByteArray) : (a ++ b).data.toList = a.data.toList ++ b.data.toList := by simp [ByteArray.data_append]
theorem size_add (a b : ByteArray) : (a ++ b).size = a.size + b.size := by rw [← size_toList, data_add, List.length_append, size_toList, size_toList]
theorem size_mk (l : List UInt8) : (⟨l.toArray⟩ : ByteArray).size = l.length := by simp [ByteArray.size]
theorem num_take (l : List UInt8) (k : Nat) (h : k < l.length) : Pl.num (l.take (k + 1)) = 256 * Pl.num (l.take k) + (l.getD k 0).toNat := by
  rw [List.take_succ_eq_append_getElem h, Pl.num_snoc]
  simp [List.getD, h]
theorem num_take_lt (l : List UInt8) (k n : Nat) (hk : k ≤ n) (hn : n ≤ 7) : Pl.num (l.take k) < 72057594037927936 := by
  have h1 := Pl.num_lt (l.take k)
  have h2 : (l.take k).length ≤ 7 := by rw [List.length_take]; omega
  have h3 : 256 ^ (l.take k).length ≤ 256 ^ 7 := Nat.pow_le_pow_right (by decide) h2
  have h4 : 256 ^ 7 = 72057594037927936 := by decide
  omega
theorem or_byte (m : Nat) (b : UInt8) (hm : m < 72057594037927936) :
    bits BinOp.or IntKind.u64 ((m : Int) * 256) (IntKind.u64.wrap (b.toNat : Int)) = ((256 * m + b.toNat : Nat) : Int) := by
  have hb := b.toNat_lt
  have e1 : IntKind.u64.wrap (b.toNat : Int) = (b.toNat : Int) := IntWalk.u64_in _ ⟨by omega, by omega⟩
  have e2 : ((m : Int) * 256) = ((m * 256 : Nat) : Int) := by omega
  rw [e1, e2, u64_or_nat _ _ (by omega) (by omega), nat_join 8 _ _ (by omega) hb]
  omega
theorem ofInt_nat64 (a : Nat) (ha : a < 18446744073709551616) : (BitVec.ofInt 64 (a : Int)).toNat = a := by
  rw [BitVec.ofInt_natCast, BitVec.toNat_ofNat]; exact Nat.mod_eq_of_lt (by omega)
theorem i64_and_nat (a b : Nat) (ha : a < 9223372036854775808) (hb : b < 9223372036854775808) : bits .and .i64 (a : Int) (b : Int) = ((a &&& b : Nat) : Int) := by
  have hx : a &&& b < 2 ^ 63 := Nat.and_lt_two_pow _ (by omega)
  show IntKind.i64.wrap ((BitVec.ofInt 64 (a : Int) &&& BitVec.ofInt 64 (b : Int)).toNat : Int) = _
  rw [BitVec.toNat_and, ofInt_nat64 a (by omega), ofInt_nat64 b (by omega), IntKind.wrap_i64]
  omega
theorem i64_or_nat (a b : Nat) (ha : a < 9223372036854775808) (hb : b < 9223372036854775808) : bits .or .i64 (a : Int) (b : Int) = ((a ||| b : Nat) : Int) := by
  have hx : a ||| b < 2 ^ 63 := Nat.or_lt_two_pow (by omega) (by omega)
  show IntKind.i64.wrap ((BitVec.ofInt 64 (a : Int) ||| BitVec.ofInt 64 (b : Int)).toNat : Int) = _
  rw [BitVec.toNat_or, ofInt_nat64 a (by omega), ofInt_nat64 b (by omega), IntKind.wrap_i64]
  omega
/-- a byte laid beside a number that is a multiple of 256 -/
theorem i64_or_byte (m : Nat) (b : Nat) (hm : m < 36028797018963968) (hb : b < 256) : bits .or .i64 ((m : Int) * 256) (b : Int) = ((256 * m + b : Nat) : Int) := by
  rw [show ((m : Int) * 256) = ((m * 256 : Nat) : Int) from by omega, i64_or_nat _ _ (by omega) (by omega), nat_join 8 _ _ (by omega) (by omega)]
  omega
theorem num4 (l : List UInt8) (n : Nat) (h4 : n ≤ 4) : Pl.num (l.take n) < 4294967296 := by
  have h1 := Pl.num_lt (l.take n)
  have h3 : 256 ^ (l.take n).length ≤ 256 ^ 4 := Nat.pow_le_pow_right (by decide) (by rw [List.length_take]; omega)
  have h4 : 256 ^ 4 = 4294967296 := by decide
  omega
theorem shr_nat (n m : Nat) : ((n : Int) / 2 ^ (8 * m)) = ((n / 256 ^ m : Nat) : Int) := by
  rw [Int.pow_mul, Int.natCast_ediv, Int.natCast_pow]
  rfl
theorem info5 : (Tryz.prog.info? 5).map (fun i => (i.zero, i.size, i.bytes)) = some (some (.int .u8 0), 1, 1) := by kernel_rfl
set_option maxRecDepth 100000 in
/-- what a slice of bytes that the call owns reads as a string -/
theorem string_of_row {w : World} {g m : Nat} {l : List UInt8} (hl : l.length = m) (h : w.ownsRow g 5 1 (.slice (some ⟨g, 0, none⟩) m m) m (l.map fun b : UInt8 => Value.int .u8 b.toNat)) :
    (convert 147 9 (.slice (some ⟨g, 0, none⟩) m m)).run Tryz.prog w = .ok (.string ⟨l.toArray⟩) w := by
  have hx := run_convert_bytes_arg (P := Tryz.prog) w 147 5 Tryz.underlying147 Tryz.underlying5 g 0 m m (l.map fun b : UInt8 => (b.toNat : Int)) (by simpa using hl)
    (fun i hi => by
      rw [Nat.zero_add, h.cellAt i (by omega)]
      simp [List.getD, hl ▸ hi]) 9 Tryz.underlying9
  rw [hx]
  congr 2
  apply ByteArray.ext
  apply Array.toList_inj.1
  rw [strOfNums_data, List.map_map]
  have e : ((fun n : Int => UInt8.ofNat n.toNat) ∘ fun b : UInt8 => (b.toNat : Int)) = id := by
    funext b; simp
  rw [e, List.map_id]
/-- the two cuts and the three joinings of Fill, each in whatever world -/
theorem cut_to (s : ByteArray) (a : Nat) (h : a ≤ s.size) (w : World) : (Instr.slice 9 (.string s) none (some (.int .i64 (a : Int))) none).run Tryz.prog w = .ok (.string (s.extract 0 a)) w := by
  rw [run_slice_string_to_if (P := Tryz.prog) w 9 s .i64 (a : Int) Tryz.underlying9, if_pos ⟨by omega, by omega⟩]
  rfl
theorem cut_from (s : ByteArray) (a : Nat) (h : a + 2 ≤ s.size) (w : World) : (Instr.slice 9 (.string s) (some (.int .i64 ((a : Int) + 2))) none none).run Tryz.prog w = .ok (.string (s.extract (a + 2) s.size)) w := by
  rw [run_slice_string_from_if (P := Tryz.prog) w 9 s .i64 ((a : Int) + 2) Tryz.underlying9, if_pos ⟨by omega, by omega⟩, show ((a : Int) + 2).toNat = a + 2 from by omega]
theorem join2 (x y : ByteArray) (h : x.size + y.size ≤ 9223372036854775807) (w : World) : (Op.stringOp .add x y).run Tryz.prog w = .ok (.string (x ++ y)) w := run_string_add_sum (P := Tryz.prog) w x y h
end Go.Proofs.YticdmepplfgdiaaGreatDoor
end
section
namespace Go.Proofs.YticdmepplfgdiaaGreatDoor
open Go.RowKit
/-- the cells from the block's head on are these bytes, and may be written -/
def BytesAt (w : World) (g : Nat) (l : List UInt8) : Prop :=
  ∀ j, j < l.length → w.cell? ⟨g, j, none⟩ = some (.int .u8 (l.getD j 0).toNat) ∧ w.frozen? ⟨g, j, none⟩ = false
theorem BytesAt.store {w : World} {g : Nat} {l : List UInt8} (h : BytesAt w g l) (j : Nat) (b : UInt8) : BytesAt (w.setCell ⟨g, j, none⟩ (.int .u8 b.toNat)) g (l.set j b) := by
  intro i hi
  rw [List.length_set] at hi
  obtain ⟨h1, h2⟩ := h i hi
  refine ⟨?_, by rw [World.frozen?_setCell]; exact h2⟩
  by_cases hij : j = i
  · subst hij
    rw [World.cell?_setCell_same _ _ _ h1]
    simp [List.getD_eq_getElem?_getD, hi]
  · rw [World.cell?_setCell_other _ _ _ _ (by intro e; cases e; exact hij rfl), h1]
    simp [List.getD_eq_getElem?_getD, hij]
set_option maxRecDepth 100000 in
theorem BytesAt.string {w : World} {g : Nat} {l : List UInt8} (h : BytesAt w g l) (n cap : Nat) (hn : l.length = n) :
    (convert 147 9 (.slice (some ⟨g, 0, none⟩) n cap)).run Tryz.prog w = .ok (.string ⟨l.toArray⟩) w := by
  have hx := run_convert_bytes_arg (P := Tryz.prog) w 147 5 Tryz.underlying147 Tryz.underlying5 g 0 n cap (l.map fun b : UInt8 => (b.toNat : Int)) (by simpa using hn)
    (fun i hi => by
      rw [Nat.zero_add, (h i (by omega)).1]
      simp [List.getD_eq_getElem?_getD, show i < l.length by omega]) 9 Tryz.underlying9
  rw [hx]
  congr 2
  apply ByteArray.ext
  apply Array.toList_inj.1
  rw [strOfNums_data, List.map_map]
  have e : ((fun n : Int => UInt8.ofNat n.toNat) ∘ fun b : UInt8 => (b.toNat : Int)) = id := by
    funext b; simp
  rw [e, List.map_id]
theorem BytesAt.drewN {w : World} {g : Nat} {l : List UInt8} (h : BytesAt w g l) (n : Nat) : BytesAt (w.drewN n) g l := fun j hj => h j hj
theorem BytesAt.below {w w' : World} {g B : Nat} {l : List UInt8} (h : BytesAt w g l) (hb : Below B w w') (hg : g < B) : BytesAt w' g l := fun j hj =>
  ⟨(hb.cell (p := ⟨g, j, none⟩) hg).trans (h j hj).1, (hb.frozen (p := ⟨g, j, none⟩) hg).trans (h j hj).2⟩
end Go.Proofs.YticdmepplfgdiaaGreatDoor
end
section
namespace Go.Proofs.YticdmepplfgdiaaGreatDoor
open Go.RowKit
set_option maxHeartbeats 400000 in
theorem byteOf_any (n i m : Nat) (hi : i < m) (hm : m ≤ 8) (A B : Nat) (w : World) (h1 : w.cell? ⟨A, 0, none⟩ = some (.int .u64 n)) (h2 : w.cell? ⟨B, 0, none⟩ = some (.int .i64 m)) :
    Calls Tryz.prog 212 #[.int .i64 i, .pointer (some ⟨A, 0, none⟩), .pointer (some ⟨B, 0, none⟩)] w fun e w' => e = .returned (.int .u8 (n / 256 ^ (m - 1 - i) % 256 : Nat)) ∧ w = w' := by
  have e : (2 : Int) ^ (8 * (m - 1 - i)) = ((256 ^ (m - 1 - i) : Nat) : Int) := by rw [Int.pow_mul]; norm_cast
  have E := Lib.hid e
  clear e
  go_enter Tryz.func212, Tryz.ntmps212
  go_wp2
  have e := E.out
  go_ret
  exact ⟨ret_int (by rw [e, Int.natCast_emod, Int.natCast_ediv]; rfl), rfl⟩
/-- the cells behind k rounds -/
def rowAt (m n k : Nat) : List Value := (((Pl.be m n).take k ++ List.replicate (m - k) 0).map fun b : UInt8 => Value.int .u8 b.toNat)
theorem rowAt_zero (m n : Nat) : (madeCells #[Value.int .u8 0] m).toList = rowAt m n 0 := by
  simp only [rowAt, List.take_zero, List.nil_append, Nat.sub_zero, madeCells]
  apply List.ext_getElem?
  intro j
  by_cases h : j < m
  · simp [h, Nat.mod_one]
  · simp [h]
theorem rowAt_get (m n k : Nat) (h : k < m) : (rowAt m n k)[k]? = some (.int .u8 0) := by
  have hl := Pl.be_length m n
  simp only [rowAt, List.getElem?_map]
  rw [List.getElem?_append_right (by rw [List.length_take]; omega), List.length_take]
  have e : k - min k (Pl.be m n).length = 0 := by omega
  rw [e]
  have e2 : m - k = (m - k - 1) + 1 := by omega
  rw [e2, List.replicate_succ]
  simp
theorem rowAt_set (m n k : Nat) (h : k < m) : (rowAt m n k).set k (.int .u8 (n / 256 ^ (m - 1 - k) % 256 : Nat)) = rowAt m n (k + 1) := by
  have hl := Pl.be_length m n
  have hg := Pl.be_get m n k h
  have hk : k < (Pl.be m n).length := by omega
  have ek : (Pl.be m n)[k] = UInt8.ofNat (n / 256 ^ (m - 1 - k) % 256) := by
    rw [List.getElem?_eq_getElem hk] at hg
    exact Option.some.inj hg
  have e2 : m - k = (m - (k + 1)) + 1 := by omega
  simp only [rowAt]
  rw [List.take_succ_eq_append_getElem hk, ek, e2, List.replicate_succ, List.map_append, List.set_append_right _ _ (by simp; omega)]
  have e3 : k - (List.map (fun b : UInt8 => Value.int .u8 b.toNat) (List.take k (Pl.be m n))).length = 0 := by simp; omega
  rw [e3]
  simp
theorem rowAt_all (m n : Nat) : rowAt m n m = (Pl.be m n).map fun b : UInt8 => Value.int .u8 b.toNat := by
  simp only [rowAt, Nat.sub_self, List.replicate_zero, List.append_nil]
  rw [List.take_of_length_le (by rw [Pl.be_length]; omega)]
set_option maxHeartbeats 400000 in
theorem bytes_any (n m : Nat) (hm : m ≤ 8) (w : World) :
    Calls Tryz.prog 146 #[.int .u64 n, .int .i64 m] w fun e w' => e = .returned (.string ⟨(Pl.be m n).toArray⟩) ∧ Below w.heap.size w w' := by
  obtain ⟨i0, hi, hz0, hz1, hz2⟩ := info_parts info5
  have hmk : ∀ u : World, (Instr.makeSlice 147 (.int .i64 (m : Int)) (.int .i64 (m : Int))).run Tryz.prog u =
      .ok (.slice (some ⟨u.heap.size, 0, none⟩) m m) (u.alloc (.cells (madeCells #[.int .u8 0] m) 5)) := fun u => by
    have h := run_make (P := Tryz.prog) u 147 5 i0 (.int .u8 0) Tryz.underlying147 hi hz0 .i64 .i64 (m : Int) (m : Int) (by omega) (Int.le_refl _) (by rw [hz2]; omega) (by omega)
    simpa [hz1, Value.cells] using h
  have H1 := Lib.hid hz1
  have H2 := Lib.hid hz2
  have H3 := Lib.hid hz0
  clear hz0 hz1 hz2
  go_enter Tryz.func146, Tryz.ntmps146
  go_wp2
  clear hmk
  go_loopw [13] (fun i wr => ∃ k : Nat, k ≤ m ∧ i = .int .i64 k ∧ wr.ownsRow (w.heap.size + 2) 5 1 (.slice (some ⟨w.heap.size + 2, 0, none⟩) m m) m (rowAt m n k) ∧
      wr.cell? ⟨w.heap.size, 0, none⟩ = some (.int .u64 n) ∧ wr.cell? ⟨w.heap.size + 1, 0, none⟩ = some (.int .i64 m) ∧ Below w.heap.size w wr ∧ w.heap.size + 2 < wr.heap.size) (fun i _ => m - (intOf i).toNat)
  case atStart =>
    refine ⟨0, Nat.zero_le _, rfl, ?_, ?_, ?_, ?_, ?_⟩
    · have h := World.ownsRow_lit (base := w.heap.size + 2) (e := 5) (size := 1) ((w.alloc (.cells #[.int .u64 n] 22)).alloc (.cells #[.int .i64 m] 3)) (madeCells #[.int .u8 0] m) m (by simp) (by unfold maxLen; omega) (by rw [size_madeCells]; omega)
      rw [rowAt_zero m n] at h
      simpa using h
    · go_simp
    · go_simp
    · go_grown
    · simp
  case round =>
    obtain ⟨k, hk, rfl, hrow, hA, hB, hbel, hsz⟩ := hrel
    have HR := Lib.hid hrow
    by_cases hlt : k < m
    · have hck := hrow.cellAt k (by omega)
      have hfk := hrow.frozenAt k
      rw [rowAt_get m n k hlt] at hck
      clear hrow
      go_wp2_with ((with_reducible refine (byteOf_any n k m hlt hm _ _ _ hA hB).mono ?_); rintro e w' ⟨rfl, rfl⟩)
      have hst := (HR.out.stored k (.int .u8 (n / 256 ^ (m - 1 - k) % 256 : Nat))).1
      rw [rowAt_set m n k hlt] at hst
      refine ⟨⟨k + 1, by omega, by go_num, ?_, ?_, ?_, ?_, ?_⟩, by simp [intOf]; omega⟩
      · rw [Int.natCast_emod, Int.natCast_ediv, Int.natCast_pow] at hst
        exact hst
      · go_simp
      · go_simp
      · exact hbel.setCell (by simp; omega) _
      · simpa using hsz
    · have hkm : k = m := by omega
      subst hkm
      have hcv := string_of_row (Pl.be_length k n) (rowAt_all k n ▸ hrow)
      have HK := Lib.hid hcv
      clear hrow
      go_wp2
      go_ret
      exact ⟨rfl, hbel⟩
theorem bytes8 (n : Nat) (w : World) :
    Calls Tryz.prog 146 #[.int .u64 n, .int .i64 8] w fun e w' => e = .returned (.string ⟨(Pl.be 8 n).toArray⟩) ∧ Below w.heap.size w w' :=
  bytes_any n 8 (by omega) w
end Go.Proofs.YticdmepplfgdiaaGreatDoor
end
section
namespace Go.Proofs.YticdmepplfgdiaaGreatDoor
open Go.RowKit
end Go.Proofs.YticdmepplfgdiaaGreatDoor
end
section
namespace Go.Proofs.YticdmepplfgdiaaGreatDoor
open Go.RowKit
theorem put_arg (n m : Int) (hm : m < 1 ∨ 4 < m ∨ n < 0) (w : World) :
    Calls Tryz.prog 69 #[.int .i64 n, .int .i64 m] w fun e w' => e = .returned (.tuple #[.string ⟨#[]⟩, .int .i64 1]) ∧ w = w' := by
  by_cases h1 : m < 1
  · clear hm
    go_enter Tryz.func69, Tryz.ntmps69
    go_wp2
    go_ret2
    exact ⟨rfl, rfl⟩
  · have h1' : 1 ≤ m := by omega
    by_cases h2 : 4 < m
    · clear hm h1
      go_enter Tryz.func69, Tryz.ntmps69
      go_wp2
      go_ret2
      exact ⟨rfl, rfl⟩
    · have h2' : m ≤ 4 := by omega
      have h3 : n < 0 := by omega
      clear hm h1 h2
      go_enter Tryz.func69, Tryz.ntmps69
      go_wp2
      go_ret2
      exact ⟨rfl, rfl⟩
theorem put_ok (n m : Nat) (h1 : 1 ≤ m) (h4 : m ≤ 4) (h : n < 256 ^ m) (hn : n ≤ 9223372036854775807) (w : World) :
    Calls Tryz.prog 69 #[.int .i64 n, .int .i64 m] w fun e w' => e = .returned (.tuple #[.string ⟨(Pl.be m n).toArray⟩, .int .i64 0]) ∧ Below w.heap.size w w' := by
  have hq : ((n : Int) / 2 ^ (8 * m) != 0) = false := by rw [shr_nat, Nat.div_eq_of_lt h]; rfl
  have d1 : decide ((m : Int) < 1) = false := decide_eq_false (by omega)
  have d2 : decide (4 < (m : Int)) = false := decide_eq_false (by omega)
  clear h
  go_enter Tryz.func69, Tryz.ntmps69
  go_wp2_with ((with_reducible refine (bytes_any n m (by omega) _).mono ?_); rintro e w' ⟨rfl, hbel⟩)
  go_ret2
  exact ⟨rfl, hbel⟩
theorem put_big (n m : Nat) (h1 : 1 ≤ m) (h4 : m ≤ 4) (h : 256 ^ m ≤ n) (w : World) :
    Calls Tryz.prog 69 #[.int .i64 n, .int .i64 m] w fun e w' => e = .returned (.tuple #[.string ⟨#[]⟩, .int .i64 1]) ∧ w = w' := by
  have hq : ((n : Int) / 2 ^ (8 * m) != 0) = true := by
    have hp : 0 < n / 256 ^ m := Nat.div_pos h (Nat.pow_pos (by decide))
    rw [shr_nat, bne_iff_ne]; omega
  have d1 : decide ((m : Int) < 1) = false := decide_eq_false (by omega)
  have d2 : decide (4 < (m : Int)) = false := decide_eq_false (by omega)
  clear h
  go_enter Tryz.func69, Tryz.ntmps69
  go_wp2
  go_ret2
  exact ⟨rfl, rfl⟩
/-- a contract as a fact that the walk does not look into -/
def Puts (n m : Int) (v : ByteArray) (c : Int) : Prop :=
  ∀ w : World, Calls Tryz.prog 69 #[.int .i64 n, .int .i64 m] w fun e w' => e = .returned (.tuple #[.string v, .int .i64 c]) ∧ Below w.heap.size w w'
theorem Puts.to {n m : Int} {v : ByteArray} {c : Int} (h : Puts n m v c) (w : World) : Calls Tryz.prog 69 #[.int .i64 n, .int .i64 m] w fun e w' => e = .returned (.tuple #[.string v, .int .i64 c]) ∧ Below w.heap.size w w' := h w
theorem puts_bad (n : Int) (m : Nat) (hn : n ≤ 9223372036854775807) (h1 : 1 ≤ m) (h4 : m ≤ 4) (h : n < 0 ∨ (256 : Int) ^ m ≤ n) : Puts n m ⟨#[]⟩ 1 := fun w => by
  rcases h with h | h
  · exact (put_arg n m (.inr (.inr h)) w).mono fun _ _ ⟨h1, h2⟩ => ⟨h1, h2 ▸ Below.refl _ _⟩
  · have h0 : (0 : Int) ≤ 256 ^ m := Int.le_of_lt (Int.pow_pos (by decide))
    obtain ⟨x, rfl⟩ := Int.eq_ofNat_of_zero_le (show 0 ≤ n by omega)
    have h2 : 256 ^ m ≤ x := by
      have e : ((256 ^ m : Nat) : Int) = 256 ^ m := by rw [Int.natCast_pow]; rfl
      omega
    exact (put_big x m h1 h4 h2 w).mono fun _ _ ⟨h1, h2⟩ => ⟨h1, h2 ▸ Below.refl _ _⟩
theorem puts_good (x m : Nat) (hx : x ≤ 9223372036854775807) (h1 : 1 ≤ m) (h4 : m ≤ 4) (h : x < 256 ^ m) : Puts x m ⟨(Pl.be m x).toArray⟩ 0 := fun w => put_ok x m h1 h4 h hx w
end Go.Proofs.YticdmepplfgdiaaGreatDoor
end
section
namespace Go.Proofs.YticdmepplfgdiaaGreatDoor
open Go.RowKit
set_option maxHeartbeats 400000 in
theorem number_any (s : ByteArray) (a n : Nat) (hs : s.size ≤ 9223372036854775807) (h : a + n ≤ s.size) (hn : n ≤ 8) (w : World) :
    Calls Tryz.prog 149 #[.string s, .int .i64 a, .int .i64 n] w fun e w' => e = .returned (.int .u64 (Pl.num ((s.data.toList.drop a).take n))) ∧ Below w.heap.size w w' := by
  have hc := fun (w : World) (s : ByteArray) => Lib.run_convert_string_bytes (P := Tryz.prog) w 9 147 5 s Tryz.underlying9 Tryz.underlying147 Tryz.underlying5
  go_enter Tryz.func149, Tryz.ntmps149
  go_wp2
  have hsz : (s.extract a (a + n)).size = n := by simp [ByteArray.size_extract]; omega
  have hcell : ∀ j, j < n → (Lib.bytesWorld w 5 (s.extract a (a + n))).cell? ⟨w.heap.size, j, none⟩ = some (.int .u8 (((s.data.toList.drop a).take n).getD j 0).toNat) := by
    intro j hj
    rw [Lib.bytesWorld_cell _ _ _ _ (by omega), ba_extract]
  have hb : Below w.heap.size w (Lib.bytesWorld w 5 (s.extract a (a + n))) := ⟨rfl, rfl, rfl, by rw [Lib.bytesWorld_size]; omega, fun j hj => Lib.bytesWorld_at_old _ _ _ _ hj⟩
  have hl : ((s.data.toList.drop a).take n).length = n := by
    have e : s.data.toList.length = s.size := by rw [Array.length_toList]; rfl
    rw [List.length_take, List.length_drop]; omega
  generalize Lib.bytesWorld w 5 (s.extract a (a + n)) = wb at *
  obtain ⟨l, el⟩ : ∃ l, l = (s.data.toList.drop a).take n := ⟨_, rfl⟩
  rw [← el] at hcell hl
  have HE := Lib.hid el
  clear el
  have HL := Lib.hid hl
  have HC := Lib.hid hcell
  clear hc hsz hcell hl
  go_loop [6, 17] (fun m i => ∃ k : Nat, k ≤ n ∧ i = .int .i64 k ∧ m = .int .u64 (Pl.num (l.take k))) (fun _ i => n - (intOf i).toNat)
  case atStart => exact ⟨0, Nat.zero_le _, rfl, rfl⟩
  case round =>
    obtain ⟨k, hk, rfl, rfl⟩ := hrel
    by_cases hlt : k < n
    · have h1 := HC.out k hlt
      have h2 := num_take_lt l k (n - 1) (by omega) (by omega)
      go_wp2
      refine ⟨⟨k + 1, by omega, by go_num, ?_⟩, by simp [intOf]; omega⟩
      rw [num_take _ _ (by rw [HL.out]; omega)]
      exact congrArg _ (or_byte _ _ h2)
    · go_wp2
      go_ret
      exact ⟨ret_int (by rw [← HE.out, List.take_of_length_le (by rw [HL.out]; omega)]), hb⟩
theorem number8 (s : ByteArray) (a : Nat) (hs : s.size ≤ 9223372036854775807) (h : a + 8 ≤ s.size) (w : World) :
    Calls Tryz.prog 149 #[.string s, .int .i64 a, .int .i64 8] w fun e w' => e = .returned (.int .u64 (Pl.num ((s.data.toList.drop a).take 8))) ∧ Below w.heap.size w w' :=
  number_any s a 8 hs h (by omega) w
end Go.Proofs.YticdmepplfgdiaaGreatDoor
end
section
namespace Go.Proofs.YticdmepplfgdiaaGreatDoor
open Go.RowKit
/-- the cells where j bytes are still to come -/
def rowB (m n j : Nat) : List Value := ((List.replicate j 0 ++ (Pl.be m n).drop j).map fun b : UInt8 => Value.int .u8 b.toNat)
theorem rowB_start (m n : Nat) : (madeCells #[Value.int .u8 0] m).toList = rowB m n m := by
  simp only [rowB, madeCells]
  rw [List.drop_of_length_le (by rw [Pl.be_length]; omega), List.append_nil]
  apply List.ext_getElem?
  intro j
  by_cases h : j < m
  · simp [h, Nat.mod_one]
  · simp [h]
theorem rowB_get (m n j : Nat) : (rowB m n (j + 1))[j]? = some (.int .u8 0) := by
  simp only [rowB, List.getElem?_map]
  rw [List.getElem?_append_left (by simp)]
  simp
theorem rowB_set (m n j : Nat) (h : j < m) : (rowB m n (j + 1)).set j (.int .u8 (n / 256 ^ (m - 1 - j) % 256 : Nat)) = rowB m n j := by
  have hl := Pl.be_length m n
  have hg := Pl.be_get m n j h
  have hk : j < (Pl.be m n).length := by omega
  have ek : (Pl.be m n)[j] = UInt8.ofNat (n / 256 ^ (m - 1 - j) % 256) := by
    rw [List.getElem?_eq_getElem hk] at hg
    exact Option.some.inj hg
  simp only [rowB]
  rw [List.drop_eq_getElem_cons hk, ek, List.replicate_succ', List.append_assoc, List.map_append, List.map_append, List.set_append_right _ _ (by simp)]
  simp
theorem rowB_end (m n : Nat) : rowB m n 0 = (Pl.be m n).map fun b : UInt8 => Value.int .u8 b.toNat := by
  simp [rowB]
end Go.Proofs.YticdmepplfgdiaaGreatDoor
end
section
namespace Go.Proofs.YticdmepplfgdiaaGreatDoor
open Go.RowKit
/-- what Put answers, whether the number fits or not -/
def PutPost (n m : Nat) (w : World) (e : Ending) (w' : World) : Prop :=
  (n < 256 ^ m → e = .returned (.tuple #[.string ⟨(Pl.be m n).toArray⟩, .int .i64 0])) ∧ (256 ^ m ≤ n → e = .returned (.tuple #[.string ⟨#[]⟩, .int .i64 1])) ∧ Below w.heap.size w w'
set_option maxRecDepth 100000 in
set_option maxHeartbeats 400000 in
theorem rput_any (n m : Nat) (h1 : 1 ≤ m) (h4 : m ≤ 4) (hn : n ≤ 9223372036854775807) (w : World) :
    Calls Tryz.prog 155 #[.int .i64 n, .int .i64 m] w (PutPost n m w) := by
  obtain ⟨i0, hi, hz0, hz1, hz2⟩ := info_parts info5
  have hmk : ∀ u : World, (Instr.makeSlice 147 (.int .i64 (m : Int)) (.int .i64 (m : Int))).run Tryz.prog u =
      .ok (.slice (some ⟨u.heap.size, 0, none⟩) m m) (u.alloc (.cells (madeCells #[.int .u8 0] m) 5)) := fun u => by
    have h := run_make (P := Tryz.prog) u 147 5 i0 (.int .u8 0) Tryz.underlying147 hi hz0 .i64 .i64 (m : Int) (m : Int) (by omega) (Int.le_refl _) (by rw [hz2]; omega) (by omega)
    simpa [hz1, Value.cells] using h
  have d1 : decide ((m : Int) < 1) = false := decide_eq_false (by omega)
  have d2 : decide (4 < (m : Int)) = false := decide_eq_false (by omega)
  clear hz0 hz1 hz2
  go_enter Tryz.func155, Tryz.ntmps155
  go_wp2
  clear hmk
  go_loopw [0, 7] (fun x i wr => ∃ j q : Nat, j ≤ m ∧ i = .int .i64 ((j : Int) - 1) ∧ x = .int .i64 q ∧ q ≤ n ∧ Hid (q = n / 256 ^ (m - j)) ∧ wr.ownsRow w.heap.size 5 1 (.slice (some ⟨w.heap.size, 0, none⟩) m m) m (rowB m n j) ∧
      Below w.heap.size w wr ∧ w.heap.size < wr.heap.size) (fun _ i _ => (intOf i + 1).toNat)
  case atStart =>
    refine ⟨m, n, Nat.le_refl _, rfl, rfl, Nat.le_refl _, ?_, ?_, ?_, ?_⟩
    · show n = _
      rw [Nat.sub_self, Nat.pow_zero, Nat.div_one]
    · have h := World.ownsRow_lit (base := w.heap.size) (e := 5) (size := 1) w (madeCells #[.int .u8 0] m) m (Nat.le_refl _) (by unfold maxLen; omega) (by rw [size_madeCells]; omega)
      rw [rowB_start m n] at h
      exact h
    · go_grown
    · simp
  case round =>
    obtain ⟨j, q, hj, rfl, rfl, hqn, hq, hrow, hbel, hsz⟩ := hrel
    have HR := Lib.hid hrow
    rcases Nat.eq_zero_or_pos j with rfl | hpos
    · have hcv := string_of_row (Pl.be_length m n) (rowB_end m n ▸ hrow)
      clear hrow
      by_cases hfit : n < 256 ^ m
      · have hq0 : q = 0 := by rw [hq.out, Nat.sub_zero]; exact Nat.div_eq_of_lt hfit
        subst hq0
        have HF := Lib.hid hfit
        clear hfit
        go_wp2
        go_ret2
        exact ⟨fun _ => rfl, fun h => absurd HF.out (by omega), hbel⟩
      · have hq0 : 0 < q := by rw [hq.out, Nat.sub_zero]; exact Nat.div_pos (by omega) (Nat.pow_pos (by decide))
        have HF := Lib.hid hfit
        clear hfit
        go_wp2
        go_ret2
        exact ⟨fun h => absurd h HF.out, fun _ => rfl, hbel⟩
    · obtain ⟨k, rfl⟩ : ∃ k, j = k + 1 := ⟨j - 1, by omega⟩
      have hck := hrow.cellAt k (by omega)
      have hfk := hrow.frozenAt k
      rw [rowB_get m n k] at hck
      clear hrow
      have hst := (HR.out.stored k (.int .u8 (n / 256 ^ (m - 1 - k) % 256 : Nat))).1
      rw [rowB_set m n k (by omega), show m - 1 - k = m - (k + 1) from by omega, ← hq.out] at hst
      have HS := Lib.hid hst
      clear hst
      have e1 : ((k + 1 : Nat) : Int) - 1 = (k : Int) := by omega
      rw [e1]
      clear e1
      go_wp2
      refine ⟨⟨k, q / 256, by omega, rfl, ?_, by omega, ?_, ?_, hbel.setCell (Nat.le_refl _) _, by simpa using hsz⟩, by simp [intOf]⟩
      · rfl
      · show q / 256 = _
        rw [hq.out, Nat.div_div_eq_div_mul, ← Nat.pow_succ]
        congr 2
        omega
      · exact HS.out
theorem rput_ok (n m : Nat) (h1 : 1 ≤ m) (h4 : m ≤ 4) (h : n < 256 ^ m) (hn : n ≤ 9223372036854775807) (w : World) :
    Calls Tryz.prog 155 #[.int .i64 n, .int .i64 m] w fun e w' => e = .returned (.tuple #[.string ⟨(Pl.be m n).toArray⟩, .int .i64 0]) ∧ Below w.heap.size w w' :=
  (rput_any n m h1 h4 hn w).mono fun _ _ hp => ⟨hp.1 h, hp.2.2⟩
end Go.Proofs.YticdmepplfgdiaaGreatDoor
end
section
namespace Go.Proofs.YticdmepplfgdiaaGreatDoor
open Go.RowKit
theorem stands_yes (s : ByteArray) (a n : Nat) (hs : s.size ≤ 9223372036854775807) (h : a + n ≤ s.size) (w : World) :
    Calls Tryz.prog 148 #[.string s, .int .i64 a, .int .i64 n] w fun e w' => e = .returned (.bool true) ∧ w = w' := by
  go_enter Tryz.func148, Tryz.ntmps148
  go_wp2
  go_ret
  exact ⟨ret_bool (decide_eq_true (by omega)), rfl⟩
theorem stands_8 (s : ByteArray) (a : Nat) (hs : s.size ≤ 9223372036854775807) (h : a + 8 ≤ s.size) (w : World) :
    Calls Tryz.prog 148 #[.string s, .int .i64 a, .int .i64 8] w fun e w' => e = .returned (.bool true) ∧ w = w' :=
  stands_yes s a 8 hs h w
theorem stands_no (s : ByteArray) (a n : Int) (hs : s.size ≤ 9223372036854775807) (ha : 0 ≤ a) (h : (s.size : Int) < a ∨ (s.size : Int) - a < n) (w : World) :
    Calls Tryz.prog 148 #[.string s, .int .i64 a, .int .i64 n] w fun e w' => e = .returned (.bool false) ∧ w = w' := by
  by_cases h1 : a ≤ s.size
  · have h2 : (s.size : Int) - a < n := by omega
    clear h
    go_enter Tryz.func148, Tryz.ntmps148
    go_wp2
    go_ret
    exact ⟨ret_bool (decide_eq_false (by omega)), rfl⟩
  · have h2 : (s.size : Int) < a := by omega
    clear h h1
    go_enter Tryz.func148, Tryz.ntmps148
    go_wp2
    go_ret
    exact ⟨rfl, rfl⟩
end Go.Proofs.YticdmepplfgdiaaGreatDoor
end
section
namespace Go.Proofs.YticdmepplfgdiaaGreatDoor
open Go.RowKit
theorem get_cut (s : ByteArray) (a n : Int) (hs : s.size ≤ 9223372036854775807) (ha : 0 ≤ a) (h1 : 1 ≤ n) (h4 : n ≤ 4) (h : (s.size : Int) < a ∨ (s.size : Int) - a < n) (w : World) :
    Calls Tryz.prog 71 #[.string s, .int .i64 a, .int .i64 n] w fun e w' => e = .returned (.tuple #[.int .i64 0, .int .i64 2]) ∧ w = w' := by
  have H := Lib.hid h
  clear h
  go_enter Tryz.func71, Tryz.ntmps71
  go_wp2_with ((with_reducible refine (stands_no s a n hs ha H.out _).mono ?_); rintro e w' ⟨rfl, rfl⟩)
  go_ret2
  exact ⟨rfl, rfl⟩
theorem get_ok (s : ByteArray) (a n : Nat) (hs : s.size ≤ 9223372036854775807) (h1 : 1 ≤ n) (h4 : n ≤ 4) (h : a + n ≤ s.size) (w : World) :
    Calls Tryz.prog 71 #[.string s, .int .i64 a, .int .i64 n] w fun e w' => e = .returned (.tuple #[.int .i64 (Pl.num ((s.data.toList.drop a).take n)), .int .i64 0]) ∧ Below w.heap.size w w' := by
  have hb := num4 (s.data.toList.drop a) n h4
  go_enter Tryz.func71, Tryz.ntmps71
  go_wp2_with (first | ((with_reducible refine (stands_yes s a n hs h _).mono ?_); rintro e w' ⟨rfl, rfl⟩) | ((with_reducible refine (number_any s a n hs h (by omega) _).mono ?_); rintro e w' ⟨rfl, hbel⟩))
  go_ret2
  exact ⟨by first | rfl | (simp; done) | skip, hbel⟩
/-- a contract as a fact that the walk does not look into -/
def Gets (s : ByteArray) (a n : Int) (v c : Int) : Prop :=
  ∀ w : World, Calls Tryz.prog 71 #[.string s, .int .i64 a, .int .i64 n] w fun e w' => e = .returned (.tuple #[.int .i64 v, .int .i64 c]) ∧ Below w.heap.size w w'
theorem Gets.to {s : ByteArray} {a n v c : Int} (h : Gets s a n v c) (w : World) : Calls Tryz.prog 71 #[.string s, .int .i64 a, .int .i64 n] w fun e w' => e = .returned (.tuple #[.int .i64 v, .int .i64 c]) ∧ Below w.heap.size w w' := h w
theorem gets_cut (s : ByteArray) (a n : Int) (hs : s.size ≤ 9223372036854775807) (ha : 0 ≤ a) (h1 : 1 ≤ n) (h4 : n ≤ 4) (h : (s.size : Int) < a ∨ (s.size : Int) - a < n) : Gets s a n 0 2 := fun w =>
  (get_cut s a n hs ha h1 h4 h w).mono fun _ _ ⟨h1, h2⟩ => ⟨h1, h2 ▸ Below.refl _ _⟩
theorem gets_ok (s : ByteArray) (a n : Nat) (hs : s.size ≤ 9223372036854775807) (h1 : 1 ≤ n) (h4 : n ≤ 4) (h : a + n ≤ s.size) : Gets s a n (Pl.num ((s.data.toList.drop a).take n)) 0 := get_ok s a n hs h1 h4 h
end Go.Proofs.YticdmepplfgdiaaGreatDoor
end
section
namespace Go.Proofs.YticdmepplfgdiaaGreatDoor
open Go.RowKit
theorem wide_ok (s : ByteArray) (a : Nat) (hs : s.size ≤ 9223372036854775807) (h : a + 8 ≤ s.size) (w : World) :
    Calls Tryz.prog 103 #[.string s, .int .i64 a] w fun e w' => e = .returned (.tuple #[.int .u64 (Pl.num ((s.data.toList.drop a).take 8)), .int .i64 0]) ∧ Below w.heap.size w w' := by
  go_enter Tryz.func103, Tryz.ntmps103
  go_wp2_with (first | ((with_reducible refine (stands_8 s a hs h _).mono ?_); rintro e w' ⟨rfl, rfl⟩) | ((with_reducible refine (number8 s a hs h _).mono ?_); rintro e w' ⟨rfl, hbel⟩))
  go_ret2
  exact ⟨rfl, hbel⟩
/-- a contract as a fact that the walk does not look into -/
def Wides (s : ByteArray) (a : Int) (v c : Int) : Prop :=
  ∀ w : World, Calls Tryz.prog 103 #[.string s, .int .i64 a] w fun e w' => e = .returned (.tuple #[.int .u64 v, .int .i64 c]) ∧ Below w.heap.size w w'
theorem Wides.to {s : ByteArray} {a v c : Int} (h : Wides s a v c) (w : World) : Calls Tryz.prog 103 #[.string s, .int .i64 a] w fun e w' => e = .returned (.tuple #[.int .u64 v, .int .i64 c]) ∧ Below w.heap.size w w' := h w
theorem wides_ok (s : ByteArray) (a : Nat) (hs : s.size ≤ 9223372036854775807) (h : a + 8 ≤ s.size) : Wides s a (Pl.num ((s.data.toList.drop a).take 8)) 0 := wide_ok s a hs h
end Go.Proofs.YticdmepplfgdiaaGreatDoor
end
section
namespace Go.Proofs.YticdmepplfgdiaaGreatDoor
open Go.RowKit
theorem cut_ok (s : ByteArray) (a n : Nat) (hs : s.size ≤ 9223372036854775807) (h : a + n ≤ s.size) (w : World) :
    Calls Tryz.prog 215 #[.string s, .int .i64 a, .int .i64 n] w fun e w' => e = .returned (.tuple #[.string (s.extract a (a + n)), .int .i64 0]) ∧ w = w' := by
  go_enter Tryz.func215, Tryz.ntmps215
  go_wp2_with ((with_reducible refine (stands_yes s a n hs h _).mono ?_); rintro e w' ⟨rfl, rfl⟩)
  go_ret2
  exact ⟨rfl, rfl⟩
end Go.Proofs.YticdmepplfgdiaaGreatDoor
end
section
namespace Go.Proofs.YticdmepplfgdiaaGreatDoor
open Go.RowKit
/-- a block whose cells begin so; it may be written -/
def Bx (W : World) (b : Nat) (vs : List Value) : Prop :=
  b < W.heap.size ∧ (∀ (i : Nat) (v : Value), vs[i]? = some v → W.cell? ⟨b, i, none⟩ = some v) ∧ ∀ o, W.frozen? ⟨b, o, none⟩ = false
theorem Bx.get {W : World} {b : Nat} {vs : List Value} (h : Bx W b vs) (i : Nat) (v : Value) (hv : vs[i]? = some v) : W.cell? ⟨b, i, none⟩ = some v := h.2.1 i v hv
theorem Bx.fz {W : World} {b : Nat} {vs : List Value} (h : Bx W b vs) (o : Nat) : W.frozen? ⟨b, o, none⟩ = false := h.2.2 o
theorem Bx.new (W : World) (vs : List Value) (t : TypeId) : Bx (W.alloc (.cells vs.toArray t)) W.heap.size vs := by
  refine ⟨by simp, fun i v hv => ?_, fun o => by simp [go_sem]⟩
  simp [go_sem, hv]
theorem Bx.under {W W' : World} {b n : Nat} {vs : List Value} (h : Bx W b vs) (g : Below n W W') (hb : b < n) : Bx W' b vs :=
  ⟨Nat.lt_of_lt_of_le h.1 g.size, fun i v hv => (g.cell (p := ⟨b, i, none⟩) hb).trans (h.2.1 i v hv), fun o => (g.frozen (p := ⟨b, o, none⟩) hb).trans (h.2.2 o)⟩
theorem Bx.below {W W' : World} {b : Nat} {vs : List Value} (h : Bx W b vs) (g : Below W.heap.size W W') : Bx W' b vs := h.under g h.1
theorem Bx.alloc {W : World} {b : Nat} {vs : List Value} (h : Bx W b vs) (o : Obj) : Bx (W.alloc o) b vs := h.below (bbox1 _ _)
theorem Bx.drew {W : World} {b : Nat} {vs : List Value} (h : Bx W b vs) : Bx W.drew b vs := h
theorem Bx.drewN {W : World} {b : Nat} {vs : List Value} (h : Bx W b vs) (n : Nat) : Bx (W.drewN n) b vs := h
/-- a store elsewhere -/
theorem Bx.put {W : World} {b c o : Nat} {x : Value} {vs : List Value} (h : Bx W b vs) (hc : b ≠ c) : Bx (W.setCell ⟨c, o, none⟩ x) b vs :=
  ⟨by rw [World.size_setCell]; exact h.1, fun i v hv => (World.cell?_setCell_other W _ _ _ (by intro e; cases e; exact hc rfl)).trans (h.2.1 i v hv), fun k => by rw [World.frozen?_setCell]; exact h.2.2 k⟩
/-- a store into it -/
theorem Bx.set {W : World} {b i : Nat} {x : Value} {vs : List Value} (h : Bx W b vs) (hi : i < vs.length) : Bx (W.setCell ⟨b, i, none⟩ x) b (vs.set i x) := by
  refine ⟨by rw [World.size_setCell]; exact h.1, fun j v hv => ?_, fun k => by rw [World.frozen?_setCell]; exact h.2.2 k⟩
  by_cases hj : i = j
  · subst hj
    rw [List.getElem?_set_self hi] at hv
    cases hv
    exact World.cell?_setCell_same W _ _ (h.2.1 i _ (List.getElem?_eq_getElem hi))
  · rw [List.getElem?_set_ne hj] at hv
    exact (World.cell?_setCell_other W _ _ _ (by intro e; cases e; exact hj rfl)).trans (h.2.1 j v hv)
theorem Bx.apart {W : World} {b c i : Nat} {x y : Value} (h : W.cell? ⟨b, i, none⟩ = some x) (k : W.cell? ⟨c, i, none⟩ = some y) (e : x ≠ y) : b ≠ c := by
  rintro rfl
  rw [h] at k
  exact e (Option.some.inj k)
/-- what was there is as it was, but for some blocks -/
structure Beside (S : List Nat) (w w' : World) : Prop where
  os : w'.os = w.os
  tape : w'.tape = w.tape
  output : w'.output = w.output
  size : w.heap.size ≤ w'.heap.size
  block : ∀ k, k < w.heap.size → k ∉ S → w'.heap[k]? = w.heap[k]?
theorem Beside.refl (S : List Nat) (w : World) : Beside S w w := ⟨rfl, rfl, rfl, Nat.le_refl _, fun _ _ _ => rfl⟩
theorem Beside.trans {S : List Nat} {a b c : World} (h : Beside S a b) (k : Beside S b c) : Beside S a c :=
  ⟨k.os.trans h.os, k.tape.trans h.tape, k.output.trans h.output, Nat.le_trans h.size k.size, fun i hi hs => (k.block i (Nat.lt_of_lt_of_le hi h.size) hs).trans (h.block i hi hs)⟩
theorem Beside.mono {S T : List Nat} {a b : World} (h : Beside S a b) (hs : ∀ x, x ∈ S → x ∈ T) : Beside T a b := ⟨h.os, h.tape, h.output, h.size, fun k hk ht => h.block k hk (fun e => ht (hs k e))⟩
theorem Beside.of_below {S : List Nat} {a b : World} (h : Below a.heap.size a b) : Beside S a b := ⟨h.os, h.tape, h.output, h.size, fun k hk _ => h.block k hk⟩
theorem Beside.to_below {n : Nat} {S : List Nat} {a b : World} (h : Beside S a b) (hn : n ≤ a.heap.size) (hs : ∀ x, x ∈ S → n ≤ x) : Below n a b :=
  ⟨h.os, h.tape, h.output, h.size, fun k hk => h.block k (Nat.lt_of_lt_of_le hk hn) (fun e => Nat.lt_irrefl _ (Nat.lt_of_lt_of_le hk (hs k e)))⟩
theorem Beside.alloc {S : List Nat} {a b : World} (h : Beside S a b) (o : Obj) : Beside S a (b.alloc o) := h.trans (.of_below (bbox1 _ _))
theorem Beside.drew {S : List Nat} {a b : World} (h : Beside S a b) : Beside S a b.drew := ⟨h.os, h.tape, h.output, h.size, h.block⟩
theorem Beside.below {S : List Nat} {a b c : World} (h : Beside S a b) (k : Below b.heap.size b c) : Beside S a c := h.trans (.of_below k)
theorem Beside.setCell {S : List Nat} {a w : World} (h : Beside S a w) {p : Addr} (hp : p.block ∈ S ∨ a.heap.size ≤ p.block) (v : Value) : Beside S a (w.setCell p v) := by
  have g : Below p.block w (w.setCell p v) := (Below.refl _ _).setCell (Nat.le_refl _) v
  refine ⟨g.os.trans h.os, g.tape.trans h.tape, g.output.trans h.output, Nat.le_trans h.size g.size, fun k hk hs => ?_⟩
  have hne : k ≠ p.block := by
    rintro rfl
    rcases hp with hp | hp
    · exact hs hp
    · exact Nat.lt_irrefl _ (Nat.lt_of_lt_of_le hk hp)
  have e : (w.setCell p v).heap[k]? = w.heap[k]? := Below.heap_setCell w p v k hne
  exact e.trans (h.block k hk hs)
theorem Bx.beside {S : List Nat} {W W' : World} {b : Nat} {vs : List Value} (h : Bx W b vs) (g : Beside S W W') (hb : b ∉ S) : Bx W' b vs := by
  have e := g.block b h.1 hb
  refine ⟨Nat.lt_of_lt_of_le h.1 g.size, fun i v hv => ?_, fun o => ?_⟩
  · have := h.2.1 i v hv
    simpa [World.cell?, e] using this
  · have := h.2.2 o
    simpa [World.frozen?, e] using this
theorem ball1 {w a : World} (h : Below w.heap.size w a) (o : Obj) : Below w.heap.size w (a.alloc o) := h.alloc h.size o
theorem Bx.new2 (W : World) (o : Obj) (vs : List Value) (t : TypeId) : Bx ((W.alloc o).alloc (.cells vs.toArray t)) (W.heap.size + 1) vs := by
  have h := Bx.new (W.alloc o) vs t
  rwa [World.size_alloc] at h
/-- four stores, one behind the other, into it -/
theorem Bx.set4 {W : World} {b : Nat} {x0 x1 x2 x3 : Value} {vs : List Value} (h : Bx W b vs) (hl : vs.length = 4) :
    Bx ((((W.setCell ⟨b, 0, none⟩ x0).setCell ⟨b, 1, none⟩ x1).setCell ⟨b, 2, none⟩ x2).setCell ⟨b, 3, none⟩ x3) b [x0, x1, x2, x3] := by
  match vs, hl with
  | [y0, y1, y2, y3], _ => exact (((h.set (i := 0) (by simp)).set (i := 1) (by simp)).set (i := 2) (by simp)).set (i := 3) (by simp)
theorem Bx.put4 {W : World} {b c : Nat} {x0 x1 x2 x3 : Value} {vs : List Value} (h : Bx W b vs) (hc : b ≠ c) :
    Bx ((((W.setCell ⟨c, 0, none⟩ x0).setCell ⟨c, 1, none⟩ x1).setCell ⟨c, 2, none⟩ x2).setCell ⟨c, 3, none⟩ x3) b vs := (((h.put hc).put hc).put hc).put hc
theorem below4 {w W : World} {c : Nat} {x0 x1 x2 x3 : Value} (h : Below w.heap.size w W) (hc : w.heap.size ≤ c) : Below w.heap.size w ((((W.setCell ⟨c, 0, none⟩ x0).setCell ⟨c, 1, none⟩ x1).setCell ⟨c, 2, none⟩ x2).setCell ⟨c, 3, none⟩ x3) :=
  (((h.setCell hc _).setCell hc _).setCell hc _).setCell hc _
end Go.Proofs.YticdmepplfgdiaaGreatDoor
end
section
namespace Go.Proofs.YticdmepplfgdiaaGreatDoor
open Go.RowKit
/-- a slice of ints that holds these numbers -/
def Ints (W : World) (v : Value) (l : List Int) : Prop :=
  ∃ (a : Option Addr) (cap : Nat), v = .slice a l.length cap ∧ (l = [] ∨ ∃ b o, a = some ⟨b, o, none⟩ ∧ b < W.heap.size ∧ ∀ i, i < l.length → W.cell? ⟨b, o + i, none⟩ = some (.int .i64 (l.getD i 0)))
theorem Ints.below {W W' : World} {v : Value} {l : List Int} (h : Ints W v l) (g : Below W.heap.size W W') : Ints W' v l := by
  obtain ⟨a, cap, rfl, h⟩ := h
  refine ⟨a, cap, rfl, ?_⟩
  rcases h with h | ⟨b, o, rfl, hb, hc⟩
  · exact .inl h
  · exact .inr ⟨b, o, rfl, Nat.lt_of_lt_of_le hb g.size, fun i hi => (g.cell hb).trans (hc i hi)⟩
theorem getD_contains {l : List Int} {n : Int} {k : Nat} (hk : k < l.length) (h : l.getD k 0 = n) : n ∈ l := by
  rw [← h, List.getD_eq_getElem?_getD, List.getElem?_eq_getElem hk]
  exact List.getElem_mem hk
theorem take_not {l : List Int} {n : Int} {k : Nat} (hk : k < l.length) (h : l.getD k 0 ≠ n) (ht : n ∉ l.take k) : n ∉ l.take (k + 1) := by
  rw [List.take_succ_eq_append_getElem hk]
  rw [List.getD_eq_getElem?_getD, List.getElem?_eq_getElem hk] at h
  simp only [List.mem_append, List.mem_singleton, not_or]
  exact ⟨ht, fun e => h e.symm⟩
/-- the row where a number is asked for -/
theorem Ints.row {W : World} {a : Option Addr} {l : List Int} {k : Nat} (h : l = [] ∨ ∃ b o, a = some ⟨b, o, none⟩ ∧ b < W.heap.size ∧ ∀ i, i < l.length → W.cell? ⟨b, o + i, none⟩ = some (.int .i64 (l.getD i 0))) (hk : k < l.length) :
    ∃ b o, a = some ⟨b, o, none⟩ ∧ b < W.heap.size ∧ ∀ i, i < l.length → W.cell? ⟨b, o + i, none⟩ = some (.int .i64 (l.getD i 0)) :=
  h.resolve_left (by rintro rfl; exact absurd hk (Nat.not_lt_zero _))
set_option maxRecDepth 100000 in
set_option maxHeartbeats 1000000 in
theorem index_any (v : Value) (l : List Int) (n : Int) (r : Bool) (hr : r = true ↔ n ∈ l) (hl : l.length ≤ 9223372036854775807) (w : World) (hv : Ints w v l) :
    Calls Tryz.prog 160 #[v, .int .i64 n] w fun e w' => (∃ q : Int, e = .returned (.int .i64 q) ∧ decide (0 ≤ q) = r) ∧ w = w' := by
  obtain ⟨a, cap, rfl, h⟩ := hv
  have HR := Lib.hid hr
  clear hr
  go_enter Tryz.func160, Tryz.ntmps160
  go_wp2
  go_loopw [5, 8] (fun _ i wr => ∃ k : Nat, k ≤ l.length ∧ i = .int .i64 k ∧ Hid (n ∉ l.take k) ∧ wr = w) (fun _ i _ => l.length + 1 - (intOf i).toNat)
  case atStart => exact ⟨0, Nat.zero_le _, rfl, by show n ∉ l.take 0; simp, rfl⟩
  case round =>
    obtain ⟨k, hk, rfl, hno, rfl⟩ := hrel
    by_cases hlt : k < l.length
    · obtain ⟨b, o, rfl, hb, hc⟩ := Ints.row h hlt
      have hck := hc k hlt
      obtain ⟨x, ex⟩ : ∃ x, x = l.getD k 0 := ⟨_, rfl⟩
      rw [← ex] at hck
      clear hc h
      rcases hq : (n == x) with _ | _
      · have hne : n ∉ l.take (k + 1) := take_not hlt (by rw [← ex]; intro e; rw [e] at hq; simp at hq) hno.out
        have HN := Lib.hid hne
        clear hne ex
        go_wp2
        refine ⟨⟨k + 1, by omega, by go_num, HN, trivial⟩, ?_⟩
        simp [intOf]; omega
      · have hm : n ∈ l := getD_contains hlt (by rw [← ex]; simpa using (beq_iff_eq.1 hq).symm)
        have hrt : r = true := HR.out.2 hm
        have HT := Lib.hid hrt
        clear ex hm hrt
        go_wp2
        go_ret
        exact ⟨⟨_, rfl, by rw [HT.out]; exact decide_eq_true (Int.natCast_nonneg k)⟩, rfl⟩
    · have hn : n ∉ l := by have h2 := hno.out; rwa [List.take_of_length_le (by omega)] at h2
      have hrf : r = false := by rcases r with _ | _; rfl; exact absurd (HR.out.1 rfl) hn
      have HF := Lib.hid hrf
      have hle : l.length ≤ k := by omega
      clear hn hrf h
      go_wp2
      go_ret
      exact ⟨⟨-1, rfl, by rw [HF.out]; rfl⟩, rfl⟩
set_option maxRecDepth 100000 in
theorem contains_any (v : Value) (l : List Int) (n : Int) (r : Bool) (hr : r = true ↔ n ∈ l) (hl : l.length ≤ 9223372036854775807) (w : World) (hv : Ints w v l) :
    Calls Tryz.prog 93 #[v, .int .i64 n] w fun e w' => e = .returned (.bool r) ∧ w = w' := by
  have HI := Lib.hid (index_any v l n r hr hl w hv)
  clear hr hl hv
  go_enter Tryz.func93, Tryz.ntmps93
  go_wp2_with ((with_reducible refine HI.out.mono ?_); rintro e w' ⟨⟨q, rfl, hq⟩, rfl⟩)
  go_ret
  exact ⟨rfl, rfl⟩
/-- a VLAN may stand at this place -/
def okAt (l : List Int) (i : Nat) : Prop := 1 ≤ l.getD i 0 ∧ l.getD i 0 ≤ 4094 ∧ (i = 0 ∨ l.getD (i - 1) 0 < l.getD i 0)
def Rises (l : List Int) : Prop := ∀ i, i < l.length → okAt l i
set_option maxRecDepth 100000 in
set_option maxHeartbeats 1000000 in
theorem rises_any (v : Value) (l : List Int) (r : Bool) (hr : r = true ↔ Rises l) (hl : l.length ≤ 9223372036854775807) (w : World) (hv : Ints w v l) :
    Calls Tryz.prog 217 #[v] w fun e w' => e = .returned (.bool r) ∧ w = w' := by
  obtain ⟨a, cap, rfl, h⟩ := hv
  have HR := Lib.hid hr
  clear hr
  go_enter Tryz.func217, Tryz.ntmps217
  go_wp2
  go_loopw [3, 5, 8] (fun la _ i wr => ∃ (k : Nat) (z : Int), k ≤ l.length ∧ i = .int .i64 k ∧ la = .int .i64 z ∧ Hid (z = if k = 0 then 0 else l.getD (k - 1) 0) ∧ Hid (∀ j, j < k → okAt l j) ∧ wr = w) (fun _ _ i _ => l.length + 1 - (intOf i).toNat)
  case atStart => exact ⟨0, 0, Nat.zero_le _, rfl, rfl, rfl, fun j hj => absurd hj (Nat.not_lt_zero _), rfl⟩
  case round =>
    obtain ⟨k, z, hk, rfl, rfl, hz, hno, rfl⟩ := hrel
    by_cases hlt : k < l.length
    · obtain ⟨b, o, rfl, hb, hc⟩ := Ints.row h hlt
      have hck := hc k hlt
      obtain ⟨x, ex⟩ : ∃ x, x = l.getD k 0 := ⟨_, rfl⟩
      rw [← ex] at hck
      have hz1 : (k = 0 ∧ z = 0) ∨ (k ≠ 0 ∧ z = l.getD (k - 1) 0 ∧ 1 ≤ z) := by
        have e := hz.out
        by_cases h0 : k = 0
        · rw [if_pos h0] at e; exact .inl ⟨h0, e⟩
        · rw [if_neg h0] at e
          exact .inr ⟨h0, e, by rw [e]; exact (hno.out (k - 1) (by omega)).1⟩
      have hok : okAt l k ↔ ¬ (x ≤ z ∨ 4094 < x) := by
        unfold okAt
        rw [← ex]
        rcases hz1 with ⟨h0, e⟩ | ⟨h0, e, e2⟩
        · constructor
          · rintro ⟨a, b, _⟩; omega
          · intro h; exact ⟨by omega, by omega, .inl h0⟩
        · rw [← e]
          constructor
          · rintro ⟨a, b, c⟩; rcases c with c | c <;> omega
          · intro h; exact ⟨by omega, by omega, .inr (by omega)⟩
      clear hc h hz1
      by_cases hq : x ≤ z ∨ 4094 < x
      · have hrf : r = false := by rcases r with _ | _; rfl; exact absurd hq (hok.1 (HR.out.1 rfl k hlt))
        have HF := Lib.hid hrf
        have hq2 : decide (x ≤ z) = true ∨ (decide (x ≤ z) = false ∧ decide (4094 < x) = true) := by
          simp only [decide_eq_true_eq, decide_eq_false_iff_not]; omega
        clear hrf hok hq ex
        rcases hq2 with q1 | ⟨q1, q2⟩
        all_goals
          go_wp2
          go_ret
          exact ⟨ret_bool HF.out.symm, rfl⟩
      · have h1 := hok.2 hq
        have hne : ∀ j, j < k + 1 → okAt l j := fun j hj => by
          rcases Nat.lt_succ_iff_lt_or_eq.1 hj with h2 | rfl
          · exact hno.out j h2
          · exact h1
        have HN := Lib.hid hne
        have hx : x = if k + 1 = 0 then 0 else l.getD (k + 1 - 1) 0 := by rw [if_neg (by omega)]; exact ex
        have HX := Lib.hid hx
        have q1 : decide (x ≤ z) = false := decide_eq_false (by omega)
        have q2 : decide (4094 < x) = false := decide_eq_false (by omega)
        clear hne hx h1 hok hq ex hno hz
        go_wp2
        refine ⟨⟨k + 1, x, by omega, by go_num, rfl, HX, HN, trivial⟩, ?_⟩
        simp [intOf]; omega
    · have hrf : r = true := HR.out.2 (fun j hj => hno.out j (by omega))
      have HF := Lib.hid hrf
      have hle : l.length ≤ k := by omega
      clear hrf h
      go_wp2
      go_ret
      exact ⟨ret_bool HF.out.symm, rfl⟩
end Go.Proofs.YticdmepplfgdiaaGreatDoor
end
section
namespace Go.Proofs.YticdmepplfgdiaaGreatDoor
open Go.RowKit
theorem eight_any (n : Nat) (w : World) :
    Calls Tryz.prog 132 #[.int .u64 n] w fun e w' => e = .returned (.string ⟨(Pl.be 8 n).toArray⟩) ∧ Below w.heap.size w w' := by
  go_enter Tryz.func132, Tryz.ntmps132
  go_wp2_with ((with_reducible refine (bytes8 n _).mono ?_); rintro e w' ⟨rfl, hbel⟩)
  go_ret
  exact ⟨rfl, hbel⟩
end Go.Proofs.YticdmepplfgdiaaGreatDoor
end
section
namespace Go.Proofs.YticdmepplfgdiaaGreatDoor
open Go.RowKit
set_option maxRecDepth 100000 in
set_option maxHeartbeats 2000000 in
theorem config_is (id : Int) (ca pa : Option Addr) (cn cc pn pc : Nat) (s4 s6 : ByteArray) (e r m l ag ro : Int) (f1 f2 : Bool) (w : World) :
    Calls Tryz.prog 8 #[.agg #[.int .u64 id, .slice ca cn cc, .slice pa pn pc, .string s4, .string s6, .int .i64 e, .int .i64 r, .int .i64 m, .int .i64 l, .int .i64 ag, .int .i64 ro, .bool f1, .bool f2]] w fun e' w' =>
      e' = .returned (.agg #[.int .u64 id, .slice ca cn cc, .slice pa pn pc, .string s4, .string s6, .int .i64 e, .int .i64 r, .int .i64 m, .int .i64 l, .int .i64 ag, .int .i64 ro, .bool f1, .bool f2]) ∧ Below w.heap.size w w' := by
  go_enter Tryz.func8, Tryz.ntmps8
  go_wp2
  exact bodyPost_ret (v := .agg #[.int .u64 id, .slice ca cn cc, .slice pa pn pc, .string s4, .string s6, .int .i64 e, .int .i64 r, .int .i64 m, .int .i64 l, .int .i64 ag, .int .i64 ro, .bool f1, .bool f2]) (by simp [results, Tryz.results8, go_sem]) rfl ⟨rfl, ball1 (bbox1 _ _) _⟩
end Go.Proofs.YticdmepplfgdiaaGreatDoor
end
section
namespace Go.Proofs.YticdmepplfgdiaaGreatDoor
open Go.RowKit
section
variable {W : World} {t k e : TypeId} {r clock : Nat} {es : Array MapEntry} {key : Value}
theorem lookup_hit (hm : Tryz.prog.underlying t = some (.map k e)) (hb : W.heap[r]? = some (.map es clock)) (hc : ∀ b, (Instr.checkKey b 10000 k key).run Tryz.prog W = .ok () W) {i : Nat} {v : Value} (hf : (Instr.findKey k key es.toList).run Tryz.prog W = .ok (some (i, v)) W) :
    (Instr.lookup t (.map (some r)) key false).run Tryz.prog W = .ok v W := by
  simp [Instr.lookup, run_underlying hm, MapKept.run_getObj_map hb, hc, hf, Result.andThen]
theorem lookup_hit2 (hm : Tryz.prog.underlying t = some (.map k e)) (hb : W.heap[r]? = some (.map es clock)) (hc : ∀ b, (Instr.checkKey b 10000 k key).run Tryz.prog W = .ok () W) {i : Nat} {v : Value} (hf : (Instr.findKey k key es.toList).run Tryz.prog W = .ok (some (i, v)) W) :
    (Instr.lookup t (.map (some r)) key true).run Tryz.prog W = .ok (.tuple #[v, .bool true]) W := by
  simp [Instr.lookup, run_underlying hm, MapKept.run_getObj_map hb, hc, hf, Result.andThen]
theorem lookup_miss (hm : Tryz.prog.underlying t = some (.map k e)) (hb : W.heap[r]? = some (.map es clock)) (hc : ∀ b, (Instr.checkKey b 10000 k key).run Tryz.prog W = .ok () W) (hf : (Instr.findKey k key es.toList).run Tryz.prog W = .ok none W) {z : Value} (hz : (zeroValue e).run Tryz.prog W = .ok z W) :
    (Instr.lookup t (.map (some r)) key false).run Tryz.prog W = .ok z W := by
  simp [Instr.lookup, run_underlying hm, MapKept.run_getObj_map hb, hc, hf, hz, Result.andThen]
theorem lookup_miss2 (hm : Tryz.prog.underlying t = some (.map k e)) (hb : W.heap[r]? = some (.map es clock)) (hc : ∀ b, (Instr.checkKey b 10000 k key).run Tryz.prog W = .ok () W) (hf : (Instr.findKey k key es.toList).run Tryz.prog W = .ok none W) {z : Value} (hz : (zeroValue e).run Tryz.prog W = .ok z W) :
    (Instr.lookup t (.map (some r)) key true).run Tryz.prog W = .ok (.tuple #[z, .bool false]) W := by
  simp [Instr.lookup, run_underlying hm, MapKept.run_getObj_map hb, hc, hf, hz, Result.andThen]
/-- a world with another object in a block -/
def World.laid (W : World) (r : Nat) (o : Obj) : World := { W with heap := W.heap.setIfInBounds r o }
theorem update_new (hm : Tryz.prog.underlying t = some (.map k e)) (hb : W.heap[r]? = some (.map es clock)) (hc : ∀ b, (Instr.checkKey b 10000 k key).run Tryz.prog W = .ok () W) (hf : (Instr.findKey k key es.toList).run Tryz.prog W = .ok none W) (v : Value) :
    (Instr.mapUpdate t (.map (some r)) key v).run Tryz.prog W = .ok () (World.laid W r (.map (es.push { key, val := v, born := clock }) (clock + 1))) := by
  simp [Instr.mapUpdate, run_underlying hm, MapKept.run_getObj_map hb, hc, hf, MapKept.run_setObj_map _ hb, Result.andThen, World.laid]
theorem findKey_asks {l : List MapEntry} {d : TypeDesc} {a : Option (Nat × Value)} (hd : Tryz.prog.underlying k = some d) (hn : Instr.findNow d key l 0 = none) (h : (Instr.findAsking k key l 0).run Tryz.prog W = .ok a W) : (Instr.findKey k key l).run Tryz.prog W = .ok a W := by
  simp [Instr.findKey, run_underlying hd, hn, h, Result.andThen]
theorem findAsking_nil {i : Nat} : (Instr.findAsking k key [] i).run Tryz.prog W = .ok none W := rfl
theorem findAsking_yes {x : MapEntry} {l : List MapEntry} {i : Nat} (h : (Op.equal k key x.key).run Tryz.prog W = .ok true W) : (Instr.findAsking k key (x :: l) i).run Tryz.prog W = .ok (some (i, x.val)) W := by
  simp [Instr.findAsking, h, Result.andThen]
theorem findAsking_no {x : MapEntry} {l : List MapEntry} {i : Nat} {a : Option (Nat × Value)} (h : (Op.equal k key x.key).run Tryz.prog W = .ok false W) (h2 : (Instr.findAsking k key l (i + 1)).run Tryz.prog W = .ok a W) : (Instr.findAsking k key (x :: l) i).run Tryz.prog W = .ok a W := by
  simp [Instr.findAsking, h, h2, Result.andThen]
theorem findKey_nil {d : TypeDesc} (hd : Tryz.prog.underlying k = some d) : (Instr.findKey k key []).run Tryz.prog W = .ok none W := by
  simp [Instr.findKey, run_underlying hd, Instr.findNow, Result.andThen]
end
section
variable (W : World)
theorem part_key (v s : Int) (b : Bool) : (Instr.checkKey b 10000 111 (.agg #[.int .i64 v, .int .i64 s])).run Tryz.prog W = .ok () W := by kernel_rfl
theorem part_44 : (Op.equal 111 (.agg #[.int .i64 10, .int .i64 4]) (.agg #[.int .i64 10, .int .i64 4])).run Tryz.prog W = .ok true W := by kernel_rfl
theorem part_164 : (Op.equal 111 (.agg #[.int .i64 10, .int .i64 16]) (.agg #[.int .i64 10, .int .i64 4])).run Tryz.prog W = .ok false W := by kernel_rfl
theorem part_1616 : (Op.equal 111 (.agg #[.int .i64 10, .int .i64 16]) (.agg #[.int .i64 10, .int .i64 16])).run Tryz.prog W = .ok true W := by kernel_rfl
end
/-- the queriers of the one VLAN -/
def twoE (q4 q16 : Nat) : Array MapEntry := #[{ key := .agg #[.int .i64 10, .int .i64 4], val := .pointer (some ⟨q4, 0, none⟩), born := 0 }, { key := .agg #[.int .i64 10, .int .i64 16], val := .pointer (some ⟨q16, 0, none⟩), born := 1 }]
def AskMap (W : World) (r q4 q16 : Nat) : Prop := W.heap[r]? = some (.map (twoE q4 q16) 2)
theorem under_part : ∃ d, Tryz.prog.underlying 111 = some d ∧ ∀ (k : Value) x l i, Instr.findNow d k (x :: l) i = none := by
  refine ⟨_, Tryz.underlying111, fun k x l i => ?_⟩
  rfl
theorem ask_4 {W : World} {r q4 q16 : Nat} (h : AskMap W r q4 q16) : (Instr.lookup 87 (.map (some r)) (.agg #[.int .i64 10, .int .i64 4]) false).run Tryz.prog W = .ok (.pointer (some ⟨q4, 0, none⟩)) W := by
  obtain ⟨d, hd, hn⟩ := under_part
  exact lookup_hit Tryz.underlying87 h (part_key W 10 4) (findKey_asks hd (hn _ _ _ _) (findAsking_yes (part_44 W)))
theorem ask_16 {W : World} {r q4 q16 : Nat} (h : AskMap W r q4 q16) : (Instr.lookup 87 (.map (some r)) (.agg #[.int .i64 10, .int .i64 16]) false).run Tryz.prog W = .ok (.pointer (some ⟨q16, 0, none⟩)) W := by
  obtain ⟨d, hd, hn⟩ := under_part
  exact lookup_hit Tryz.underlying87 h (part_key W 10 16) (findKey_asks hd (hn _ _ _ _) (findAsking_no (part_164 W) (findAsking_yes (part_1616 W))))
end Go.Proofs.YticdmepplfgdiaaGreatDoor
end
section
namespace Go.Proofs.YticdmepplfgdiaaGreatDoor
open Go.RowKit
theorem tinfo3 : (Tryz.prog.info? 3).map (fun i => (i.zero, i.size, i.bytes)) = some (some (.int .i64 0), 1, 8) := by kernel_rfl
/-- a slice of ints that holds these numbers -/
def Nums (W : World) (v : Value) (l : List Int) : Prop :=
  ∃ (a : Option Addr) (cap : Nat), v = .slice a l.length cap ∧ (l = [] ∨ ∃ b o, a = some ⟨b, o, none⟩ ∧ b < W.heap.size ∧ ∀ i, i < l.length → W.cell? ⟨b, o + i, none⟩ = some (.int .i64 (l.getD i 0)))
theorem Nums.below {W W' : World} {v : Value} {l : List Int} (h : Nums W v l) (g : Below W.heap.size W W') : Nums W' v l := by
  obtain ⟨a, cap, rfl, h⟩ := h
  refine ⟨a, cap, rfl, ?_⟩
  rcases h with h | ⟨b, o, rfl, hb, hc⟩
  · exact .inl h
  · exact .inr ⟨b, o, rfl, Nat.lt_of_lt_of_le hb g.size, fun i hi => (g.cell hb).trans (hc i hi)⟩
/-- the row gathered so far, behind a callee -/
theorem own_below {W W' : World} {B : Nat} {t : TypeId} {n : Nat} {v : Value} {m : Nat} {xs : List Value} (h : W.ownsRow B t n v m xs) (g : Below W.heap.size W W') : W'.ownsRow B t n v m xs :=
  h.kept (w' := W') (row := none) ⟨g.os, g.tape, g.output, g.size, fun k hk _ => g.block k hk⟩ (Classical.em _)
/-- one number is appended to a row of one's own -/
theorem push_int {ops : Array Oper} {rest : List Oper} {o : Oper} {a : Act} {w : World} {Q : Exit → Act → World → Prop} (hgd : o.guard = none) (s x : Operand)
    (ho : o.op = .call { callee := .builtin .append, args := #[s, x], argTypes := #[23, 23] }) (B : Nat) (v : Value) (l : List Int) (n : Int) (ad : Addr) (hs : a.eval s = v)
    (hown : w.ownsRow B 3 1 v l.length (l.map (Value.int .i64))) (hx : a.eval x = .slice (some ad) 1 1) (hc : w.cell? ad = some (.int .i64 n)) (hl : l.length ≤ 100000) (hb : B ≤ w.heap.size)
    (h : ∀ v' w', w'.ownsRow B 3 1 v' (l ++ [n]).length ((l ++ [n]).map (Value.int .i64)) → Below B w w' → B ≤ w'.heap.size → wpList Tryz.prog ops Q rest (a.put o.dst v') w') : wpList Tryz.prog ops Q (o :: rest) a w := by
  obtain ⟨i0, hi, hz0, hz1, hz2⟩ := info_parts tinfo3
  refine wpList_append_own _ hgd s x 23 ho B 3 i0 (.int .i64 0) 1 8 Tryz.underlying23 hi hz0 hz1 hz2 rfl (by decide) v _ _ hs hown ad 1 1 [.int .i64 n] hx rfl ?_ ?_ ?_ ?_ hb ?_
  · intro j u hj
    match j, hj with
    | 0, hj =>
      simp at hj
      subst hj
      have e : ad.add 0 = ad := by unfold Addr.add; split <;> simp_all
      rw [e]
      exact hc
  · intro u hu; simp at hu; subst hu; rfl
  · unfold maxLen; omega
  · omega
  · intro v' w' h1 h2 _
    refine h v' w' (by simpa using h1) ⟨h2.os, h2.tape, h2.output, h2.size, fun k hk => h2.block k (by omega) (fun e => ?_)⟩ (Nat.le_trans hb h2.size)
    have := (hown.lt k e.symm).1
    omega
theorem row_bx {W : World} {B : Nat} {t : TypeId} {s : Nat} {v : Value} {n : Nat} {l : List Value} (h : W.ownsRow B t s v n l) (hn : n ≠ 0) (hl : l.length = n * s) : ∃ g cap, v = .slice (some ⟨g, 0, none⟩) n cap ∧ B ≤ g ∧ Bx W g l := by
  have hh := h
  rcases h.2 with ⟨rfl, h0⟩ | ⟨g, cap, cur, rfl, hb, hg, hr⟩
  · exact absurd h0 hn
  · refine ⟨g, cap, rfl, (hh.lt g rfl).1, (hh.lt g rfl).2, fun i v hv => ?_, fun o => hh.frozenAt o⟩
    have hi : i < l.length := (List.getElem?_eq_some_iff.1 hv).1
    rw [hh.cellAt i (by omega)]
    exact hv
end Go.Proofs.YticdmepplfgdiaaGreatDoor
end
section
namespace Go.Proofs.YticdmepplfgdiaaGreatDoor
open Go.RowKit
/-- does a number lie within bounds? -/
def inside (n a b : Int) : Bool := decide (a ≤ n) && decide (n ≤ b)
theorem inside_cases (n a b : Int) : (decide (a ≤ n) = false ∧ inside n a b = false) ∨ (decide (a ≤ n) = true ∧ inside n a b = decide (n ≤ b)) := by
  unfold inside
  rcases h : decide (a ≤ n) with _ | _
  · exact .inl ⟨rfl, rfl⟩
  · exact .inr ⟨rfl, rfl⟩
set_option maxRecDepth 100000 in
set_option maxHeartbeats 1000000 in
theorem fdb_within (n a b : Int) (w : World) : Calls Tryz.prog 110 #[.int .i64 n, .int .i64 a, .int .i64 b] w fun e w' => e = .returned (.bool (inside n a b)) ∧ w' = w := by
  rcases inside_cases n a b with ⟨q1, e⟩ | ⟨q1, e⟩
  all_goals
    rw [e]
    clear e
    go_enter Tryz.func110, Tryz.ntmps110
    go_wp2
    go_ret
    exact ⟨rfl, rfl⟩
set_option maxRecDepth 100000 in
set_option maxHeartbeats 1000000 in
theorem table_within (n a b : Int) (w : World) : Calls Tryz.prog 90 #[.int .i64 n, .int .i64 a, .int .i64 b] w fun e w' => e = .returned (.bool (inside n a b)) ∧ w' = w := by
  rcases inside_cases n a b with ⟨q1, e⟩ | ⟨q1, e⟩
  all_goals
    rw [e]
    clear e
    go_enter Tryz.func90, Tryz.ntmps90
    go_wp2
    go_ret
    exact ⟨rfl, rfl⟩
set_option maxRecDepth 100000 in
set_option maxHeartbeats 1000000 in
theorem querier_within (n a b : Int) (w : World) : Calls Tryz.prog 91 #[.int .i64 n, .int .i64 a, .int .i64 b] w fun e w' => e = .returned (.bool (inside n a b)) ∧ w' = w := by
  rcases inside_cases n a b with ⟨q1, e⟩ | ⟨q1, e⟩
  all_goals
    rw [e]
    clear e
    go_enter Tryz.func91, Tryz.ntmps91
    go_wp2
    go_ret
    exact ⟨rfl, rfl⟩
set_option maxRecDepth 100000 in
set_option maxHeartbeats 1000000 in
theorem bridge_within (n a b : Int) (w : World) : Calls Tryz.prog 24 #[.int .i64 n, .int .i64 a, .int .i64 b] w fun e w' => e = .returned (.bool (inside n a b)) ∧ w' = w := by
  rcases inside_cases n a b with ⟨q1, e⟩ | ⟨q1, e⟩
  all_goals
    rw [e]
    clear e
    go_enter Tryz.func24, Tryz.ntmps24
    go_wp2
    go_ret
    exact ⟨rfl, rfl⟩
/-- a querier with no address of its own: it never asks; a tick sets its next time to what it waits for, and counts from 0 -/
def QuietAt (W : World) (b : Nat) (every robust until_ : Int) : Prop := ∃ next asked : Int, Bx W b [.string ⟨#[]⟩, .int .i64 every, .int .i64 robust, .int .i64 until_, .int .i64 next, .int .i64 asked]
set_option maxRecDepth 100000 in
set_option maxHeartbeats 1000000 in
theorem quiet_is (b : Nat) (every robust until_ now : Int) (w : World) (h : QuietAt w b every robust until_) : Calls Tryz.prog 61 #[.pointer (some ⟨b, 0, none⟩), .int .i64 now] w fun e w' => e = .returned (.bool false) ∧ w' = w := by
  obtain ⟨nx, ak, h⟩ := h
  have c0 := h.get 0 _ rfl
  clear h
  go_enter Tryz.func61, Tryz.ntmps61
  go_wp2
  go_ret
  exact ⟨rfl, rfl⟩
set_option maxRecDepth 100000 in
set_option maxHeartbeats 1000000 in
theorem quiet_tick (b : Nat) (every robust until_ now : Int) (h0 : 0 ≤ now) (h1 : now ≤ 1099511627776) (w : World) (h : QuietAt w b every robust until_) : Calls Tryz.prog 58 #[.pointer (some ⟨b, 0, none⟩), .int .i64 now] w fun e w' => e = .returned (.bool false) ∧ QuietAt w' b every robust until_ ∧ Beside [b] w w' := by
  have hin : inside now 0 1099511627776 = true := by unfold inside; rw [decide_eq_true h0, decide_eq_true h1]; rfl
  have HW := Lib.hid (querier_within now 0 1099511627776)
  rw [hin] at HW
  have HI := Lib.hid (quiet_is b every robust until_ now w h)
  obtain ⟨nx, ak, h⟩ := h
  have c0 := h.get 0 _ rfl
  have c1 := h.get 1 _ rfl
  have c2 := h.get 2 _ rfl
  have c3 := h.get 3 _ rfl
  have c4 := h.get 4 _ rfl
  have c5 := h.get 5 _ rfl
  have cf := h.fz
  have HX := Lib.hid h
  clear h
  go_enter Tryz.func58, Tryz.ntmps58
  go_wp2_with (first | (go_at_call 91; (with_reducible refine (HW.out _).mono ?_); rintro e w1 ⟨rfl, rfl⟩) | (go_at_call 61; (with_reducible refine HI.out.mono ?_); rintro e w1 ⟨rfl, rfl⟩))
  go_ret
  exact ⟨rfl, ⟨_, _, (HX.out.set (i := 4) (x := .int .i64 until_) (by simp)).set (i := 5) (x := .int .i64 0) (by simp)⟩, ((Beside.refl [b] _).setCell (p := ⟨b, 4, none⟩) (.inl (List.mem_singleton.2 rfl)) _).setCell (p := ⟨b, 5, none⟩) (.inl (List.mem_singleton.2 rfl)) _⟩
end Go.Proofs.YticdmepplfgdiaaGreatDoor
end
section
namespace Go.Proofs.YticdmepplfgdiaaGreatDoor
open Go.RowKit
set_option maxRecDepth 100000 in
theorem member_any (d : Int) (tv pv : Value) (t p : List Int) (n : Int) (r : Bool) (hr : r = true ↔ n ∈ t ∨ n ∈ p) (h1 : t.length ≤ 9223372036854775807) (h2 : p.length ≤ 9223372036854775807) (w : World) (ht : Ints w tv t) (hp : Ints w pv p) :
    Calls Tryz.prog 108 #[.agg #[.int .i64 d, tv, pv], .int .i64 n] w fun e w' => e = .returned (.bool r) ∧ Below w.heap.size w w' := by
  by_cases c1 : n ∈ t
  · have HT := Lib.hid (fun W (q : Ints W tv t) => contains_any tv t n true (iff_of_true rfl c1) h1 W q)
    have hrt := Lib.hid (hr.2 (.inl c1))
    have IT := Lib.hid (ht.below (bbox1 w (.cells #[.int .i64 d, tv, pv] 69)))
    clear hr c1 h1 h2 ht hp
    go_enter Tryz.func108, Tryz.ntmps108
    go_wp2_with ((with_reducible refine (HT.out _ IT.out).mono ?_); rintro e w1 ⟨rfl, rfl⟩)
    go_ret
    exact ⟨ret_bool hrt.out.symm, bbox1 _ _⟩
  · have HT := Lib.hid (fun W (q : Ints W tv t) => contains_any tv t n false (iff_of_false (by decide) c1) h1 W q)
    have hrt : r = true ↔ n ∈ p := hr.trans ⟨fun h => h.resolve_left c1, .inr⟩
    have HP := Lib.hid (fun W (q : Ints W pv p) => contains_any pv p n r hrt h2 W q)
    have IT := Lib.hid (ht.below (bbox1 w (.cells #[.int .i64 d, tv, pv] 69)))
    have IP := Lib.hid (hp.below (bbox1 w (.cells #[.int .i64 d, tv, pv] 69)))
    clear hr c1 h1 h2 ht hp hrt
    go_enter Tryz.func108, Tryz.ntmps108
    go_wp2_with (first | ((with_reducible refine (HT.out _ IT.out).mono ?_); rintro e w1 ⟨rfl, rfl⟩) | ((with_reducible refine (HP.out _ IP.out).mono ?_); rintro e w1 ⟨rfl, rfl⟩))
    go_ret
    exact ⟨rfl, bbox1 _ _⟩
/-- the function within vlan.fine, at a port's box -/
theorem both_any (b : Nat) (pv : Value) (p : List Int) (n : Int) (r : Bool) (hr : r = true ↔ n ∈ p) (h2 : p.length ≤ 9223372036854775807) (w : World) (hc : w.cell? ⟨b, 2, none⟩ = some pv) (hp : Ints w pv p) :
    Calls Tryz.prog 216 #[.int .i64 n, .pointer (some ⟨b, 0, none⟩)] w fun e w' => e = .returned (.bool r) ∧ w = w' := by
  have HP := Lib.hid (contains_any pv p n r hr h2 w hp)
  clear hr h2 hp
  go_enter Tryz.func216, Tryz.ntmps216
  go_wp2_with ((with_reducible refine HP.out.mono ?_); rintro e w1 ⟨rfl, rfl⟩)
  go_ret
  exact ⟨rfl, rfl⟩
set_option maxRecDepth 100000 in
set_option maxHeartbeats 1000000 in
theorem indexf_any (v : Value) (l : List Int) (b : Nat) (pv : Value) (p : List Int) (r : Bool) (hr : r = true ↔ ∃ n, n ∈ l ∧ n ∈ p) (hl : l.length ≤ 9223372036854775807) (h2 : p.length ≤ 9223372036854775807) (w : World) (hv : Ints w v l) (hcb : w.cell? ⟨b, 2, none⟩ = some pv) (hp : Ints w pv p) :
    Calls Tryz.prog 264 #[v, .func (.func 216) #[] #[.pointer (some ⟨b, 0, none⟩)]] w fun e w' => (∃ q : Int, e = .returned (.int .i64 q) ∧ decide (0 ≤ q) = r) ∧ w = w' := by
  obtain ⟨a, cap, rfl, h⟩ := hv
  have HR := Lib.hid hr
  have HB := Lib.hid (fun n r hr => both_any b pv p n r hr h2 w hcb hp)
  clear hr hp hcb h2
  go_enter Tryz.func264, Tryz.ntmps264
  go_wp2
  go_loopw [5, 8] (fun _ i wr => ∃ k : Nat, k ≤ l.length ∧ i = .int .i64 k ∧ Hid (∀ n, n ∈ l.take k → n ∉ p) ∧ wr = w) (fun _ i _ => l.length + 1 - (intOf i).toNat)
  case atStart => exact ⟨0, Nat.zero_le _, rfl, by show ∀ n, n ∈ l.take 0 → n ∉ p; simp, rfl⟩
  case round =>
    obtain ⟨k, hk, rfl, hno, rfl⟩ := hrel
    by_cases hlt : k < l.length
    · obtain ⟨b2, o, rfl, hb, hc⟩ := Ints.row h hlt
      have hck := hc k hlt
      obtain ⟨x, ex⟩ : ∃ x, x = l.getD k 0 := ⟨_, rfl⟩
      rw [← ex] at hck
      have hmem : x ∈ l := getD_contains hlt ex.symm
      have htk : ∀ n, n ∈ l.take (k + 1) → n ∈ l.take k ∨ n = x := fun n hn => by
        rw [List.take_succ_eq_append_getElem hlt, List.mem_append, List.mem_singleton] at hn
        rcases hn with hn | hn
        · exact .inl hn
        · exact .inr (by rw [hn, ex, List.getD_eq_getElem?_getD, List.getElem?_eq_getElem hlt]; rfl)
      by_cases hq : x ∈ p
      · have HC := Lib.hid (HB.out x true (iff_of_true rfl hq))
        have HT := Lib.hid (HR.out.2 ⟨x, hmem, hq⟩)
        clear hc h hmem htk hq ex
        go_wp2_with ((with_reducible refine HC.out.mono ?_); rintro e w1 ⟨rfl, rfl⟩)
        go_ret
        exact ⟨⟨_, rfl, by rw [HT.out]; exact decide_eq_true (Int.natCast_nonneg k)⟩, rfl⟩
      · have HC := Lib.hid (HB.out x false (iff_of_false (by decide) hq))
        have hne : ∀ n, n ∈ l.take (k + 1) → n ∉ p := fun n hn => by
          rcases htk n hn with h1 | rfl
          · exact hno.out n h1
          · exact hq
        have HN := Lib.hid hne
        clear hc h hmem htk hq ex hne
        go_wp2_with ((with_reducible refine HC.out.mono ?_); rintro e w1 ⟨rfl, rfl⟩)
        refine ⟨⟨k + 1, by omega, by go_num, HN, trivial⟩, ?_⟩
        simp [intOf]; omega
    · have hn : ¬ ∃ n, n ∈ l ∧ n ∈ p := by
        rintro ⟨n, h1, h2⟩
        have h3 := hno.out n
        rw [List.take_of_length_le (by omega)] at h3
        exact h3 h1 h2
      have hrf : r = false := by rcases r with _ | _; rfl; exact absurd (HR.out.1 rfl) hn
      have HF := Lib.hid hrf
      have hle : l.length ≤ k := by omega
      clear hn hrf h
      go_wp2
      go_ret
      exact ⟨⟨-1, rfl, by rw [HF.out]; rfl⟩, rfl⟩
set_option maxRecDepth 100000 in
theorem containsf_any (v : Value) (l : List Int) (b : Nat) (pv : Value) (p : List Int) (r : Bool) (hr : r = true ↔ ∃ n, n ∈ l ∧ n ∈ p) (hl : l.length ≤ 9223372036854775807) (h2 : p.length ≤ 9223372036854775807) (w : World) (hv : Ints w v l) (hcb : w.cell? ⟨b, 2, none⟩ = some pv) (hp : Ints w pv p) :
    Calls Tryz.prog 218 #[v, .func (.func 216) #[] #[.pointer (some ⟨b, 0, none⟩)]] w fun e w' => e = .returned (.bool r) ∧ w = w' := by
  have HI := Lib.hid (indexf_any v l b pv p r hr hl h2 w hv hcb hp)
  clear hr hl hv hcb hp h2
  go_enter Tryz.func218, Tryz.ntmps218
  go_wp2_with ((with_reducible refine HI.out.mono ?_); rintro e w' ⟨⟨q, rfl, hq⟩, rfl⟩)
  go_ret
  exact ⟨rfl, rfl⟩
/-- may a port be so? -/
def Fine (d : Int) (t p : List Int) : Prop := Rises t ∧ Rises p ∧ (¬ ∃ n, n ∈ t ∧ n ∈ p) ∧ (d = 0 ∨ (d ∈ t ∨ d ∈ p))
theorem tell (P : Prop) : ∃ b : Bool, b = true ↔ P := by
  by_cases h : P
  · exact ⟨true, iff_of_true rfl h⟩
  · exact ⟨false, iff_of_false (by decide) h⟩
set_option maxRecDepth 100000 in
set_option maxHeartbeats 1000000 in
theorem vfine_any (d : Int) (tv pv : Value) (t p : List Int) (r : Bool) (hr : r = true ↔ Fine d t p) (h1 : t.length ≤ 9223372036854775807) (h2 : p.length ≤ 9223372036854775807) (w : World) (ht : Ints w tv t) (hp : Ints w pv p) :
    Calls Tryz.prog 157 #[.agg #[.int .i64 d, tv, pv]] w fun e w' => e = .returned (.bool r) ∧ Below w.heap.size w w' := by
  obtain ⟨b1, e1⟩ := tell (Rises t)
  obtain ⟨b2, e2⟩ := tell (Rises p)
  obtain ⟨b3, e3⟩ := tell (∃ n, n ∈ t ∧ n ∈ p)
  obtain ⟨b5, e5⟩ := tell (d ∈ t ∨ d ∈ p)
  obtain ⟨b4, e4⟩ : ∃ b, b = (d == 0) := ⟨_, rfl⟩
  have hR : r = (b1 && (b2 && (!b3 && (b4 || b5)))) := by
    rw [Bool.eq_iff_iff, hr, e4]
    simp only [Fine, Bool.and_eq_true, Bool.or_eq_true, Bool.not_eq_true', beq_iff_eq, e1, e2, e5]
    constructor
    · rintro ⟨q1, q2, q3, q4⟩
      exact ⟨q1, q2, (by rcases b3 with _ | _; rfl; exact absurd (e3.1 rfl) q3), q4⟩
    · rintro ⟨q1, q2, q3, q4⟩
      exact ⟨q1, q2, (fun h => by rw [e3.2 h] at q3; cases q3), q4⟩
  have HR := Lib.hid hR
  have f4 := e4.symm
  have g := bbox1 w (.cells #[.int .i64 d, tv, pv] 69)
  have H1 := Lib.hid (rises_any tv t b1 e1 h1 _ (ht.below g))
  have H2 := Lib.hid (rises_any pv p b2 e2 h2 _ (hp.below g))
  have H3 := Lib.hid (containsf_any tv t w.heap.size pv p b3 e3 h1 h2 _ (ht.below g) (by simp [go_sem]) (hp.below g))
  have H5 := Lib.hid (member_any d tv pv t p d b5 e5 h1 h2 _ (ht.below g) (hp.below g))
  clear hR hr e1 e2 e3 e4 e5 h1 h2 ht hp g
  rcases b1 with _ | _ <;> rcases b2 with _ | _ <;> rcases b3 with _ | _ <;> rcases b4 with _ | _
  all_goals
    go_enter Tryz.func157, Tryz.ntmps157
    go_wp2_with (first | ((with_reducible refine H1.out.mono ?_); rintro e w1 ⟨rfl, rfl⟩) | ((with_reducible refine H2.out.mono ?_); rintro e w1 ⟨rfl, rfl⟩) | ((with_reducible refine H3.out.mono ?_); rintro e w1 ⟨rfl, rfl⟩) | ((with_reducible refine H5.out.mono ?_); rintro e w5 ⟨rfl, g5⟩))
    go_ret
    first
      | exact ⟨by rw [HR.out]; rfl, bbox1 _ _⟩
      | exact ⟨by rw [HR.out]; simp, bstep (bbox1 _ _) g5⟩
end Go.Proofs.YticdmepplfgdiaaGreatDoor
end
section
namespace Go.Proofs.YticdmepplfgdiaaGreatDoor
open Go.RowKit
theorem rof_ok (n m : Nat) (h1 : 1 ≤ m) (h4 : m ≤ 4) (h : n < 256 ^ m) (hn : n ≤ 9223372036854775807) (w : World) :
    Calls Tryz.prog 81 #[.int .i64 n, .int .i64 m] w fun e w' => e = .returned (.string ⟨(Pl.be m n).toArray⟩) ∧ Below w.heap.size w w' := by
  go_enter Tryz.func81, Tryz.ntmps81
  go_wp2_with ((with_reducible refine (rput_ok n m h1 h4 h hn _).mono ?_); rintro e w1 ⟨rfl, h1⟩)
  go_ret
  exact ⟨rfl, h1⟩
theorem rof2 (n : Nat) (h : n < 65536) (w : World) :
    Calls Tryz.prog 81 #[.int .i64 n, .int .i64 2] w fun e w' => e = .returned (.string ⟨(Pl.be 2 n).toArray⟩) ∧ Below w.heap.size w w' := rof_ok n 2 (by decide) (by decide) (by omega) (by omega) w
end Go.Proofs.YticdmepplfgdiaaGreatDoor
end
section
namespace Go.Proofs.YticdmepplfgdiaaGreatDoor
open Go.RowKit
theorem bridge_in {n a b : Int} (h : inside n a b = true) (W : World) : Calls Tryz.prog 24 #[.int .i64 n, .int .i64 a, .int .i64 b] W fun e w' => e = .returned (.bool true) ∧ w' = W := by
  have h2 := bridge_within n a b W
  rwa [h] at h2
set_option maxRecDepth 100000 in
set_option maxHeartbeats 1000000 in
theorem goes_any (b : Nat) (now : Int) (h0 : 1 ≤ now) (h1 : now ≤ 1099511627776) (w : World) : Calls Tryz.prog 34 #[.pointer (some ⟨b, 0, none⟩), .int .i64 now] w fun e w' => e = .returned (.bool true) ∧ w' = w := by
  have hin : inside now 1 1099511627776 = true := by unfold inside; rw [decide_eq_true h0, decide_eq_true h1]; rfl
  have HI := Lib.hid (fun W => bridge_in hin W)
  clear hin
  go_enter Tryz.func34, Tryz.ntmps34
  go_wp2_with ((with_reducible refine (HI.out _).mono ?_); rintro e w1 ⟨rfl, rfl⟩)
  go_ret
  exact ⟨rfl, rfl⟩
set_option maxRecDepth 100000 in
set_option maxHeartbeats 1000000 in
theorem self_none (n : Int) (w : World) : Calls Tryz.prog 86 #[.string ⟨#[]⟩, .int .i64 n] w fun e w' => e = .returned (.bool true) ∧ w' = w := by
  go_enter Tryz.func86, Tryz.ntmps86
  go_wp2
  go_ret
  exact ⟨rfl, rfl⟩
set_option maxRecDepth 100000 in
set_option maxHeartbeats 1000000 in
theorem to_any (w : World) : Calls Tryz.prog 41 #[] w fun e w' => e = .returned (.string ⟨#[1, 128, 194, 0, 0, 0]⟩) ∧ w' = w := by
  go_enter Tryz.func41, Tryz.ntmps41
  go_wp2
  go_ret
  exact ⟨rfl, rfl⟩
end Go.Proofs.YticdmepplfgdiaaGreatDoor
end
section
namespace Go.Proofs.YticdmepplfgdiaaGreatDoor
open Go.RowKit
theorem Bx.grown {W W' : World} {b : Nat} {vs : List Value} {r : Option Nat} (h : Bx W b vs) (g : W.grownBy W' r) (hb : r ≠ some b) : Bx W' b vs := by
  have e := g.block b h.1 (fun e => hb e.symm)
  refine ⟨Nat.lt_of_lt_of_le h.1 g.size, fun i v hv => ?_, fun o => ?_⟩
  · have := h.2.1 i v hv
    simpa [World.cell?, e] using this
  · have := h.2.2 o
    simpa [World.frozen?, e] using this
theorem own_ne {W : World} {B : Nat} {t : TypeId} {s : Nat} {v : Value} {n : Nat} {l : List Value} (h : W.ownsRow B t s v n l) {b : Nat} (hb : W.heap.size ≤ b) : v.ownBlock ≠ some b := fun e => by
  have := (h.lt b e).2
  omega
theorem grown_below {W W' : World} {B : Nat} {t : TypeId} {s : Nat} {v : Value} {n : Nat} {l : List Value} {W0 : World} (h : W0.ownsRow B t s v n l) (g : W.grownBy W' v.ownBlock) (hb : B ≤ W.heap.size) : Below B W W' :=
  ⟨g.os, g.tape, g.output, g.size, fun k hk => g.block k (by omega) (fun e => by have := (h.lt k e.symm).1; omega)⟩
/-- one thing is appended to a row of one's own -/
theorem push_any {ops : Array Oper} {rest : List Oper} {o : Oper} {a : Act} {w : World} {Q : Exit → Act → World → Prop} (hgd : o.guard = none) (s x : Operand) (st et : TypeId)
    (ho : o.op = .call { callee := .builtin .append, args := #[s, x], argTypes := #[st, st] }) (B : Nat) {z : Value} {size bytes : Nat} (hu : Tryz.prog.underlying st = some (.slice et)) (ht : (Tryz.prog.info? et).map (fun i => (i.zero, i.size, i.bytes)) = some (some z, size, bytes)) (hz : z.cells.size = size) (hp : 0 < size)
    (v : Value) (k : Nat) (l : List Value) (news : List Value) (b : Nat) (hs : a.eval s = v)
    (hown : w.ownsRow B et size v k l) (hx : a.eval x = .slice (some ⟨b, 0, none⟩) 1 1) (hc : Bx w b news) (hn : news.length = size) (h1 : ∀ u ∈ news, u.oneCell' = true) (hl : k ≤ 100000) (hy : bytes ≤ 1000) (hb : B ≤ w.heap.size)
    (h : ∀ v' w', w'.ownsRow B et size v' (k + 1) (l ++ news) → w.grownBy w' v.ownBlock → Below B w w' → B ≤ w'.heap.size → wpList Tryz.prog ops Q rest (a.put o.dst v') w') : wpList Tryz.prog ops Q (o :: rest) a w := by
  obtain ⟨i0, hi, hz0, hz1, hz2⟩ := info_parts ht
  refine wpList_append_own _ hgd s x st ho B et i0 z size bytes hu hi hz0 hz1 hz2 hz hp v _ _ hs hown ⟨b, 0, none⟩ 1 1 news hx (by omega) ?_ h1 ?_ ?_ hb ?_
  · intro j u hj
    have e : (⟨b, 0, none⟩ : Addr).add j = ⟨b, j, none⟩ := by simp [Addr.add]; omega
    rw [e]
    exact hc.get j u hj
  · unfold maxLen; omega
  · have h3 : (k + 1) * bytes ≤ 100001 * 1000 := Nat.mul_le_mul (by omega) hy
    omega
  · intro v' w' h1 h2 _
    exact h v' w' h1 h2 (grown_below hown h2 hb) (Nat.le_trans hb h2.size)
/-- a store elsewhere -/
theorem own_set {W : World} {B : Nat} {t : TypeId} {s : Nat} {v : Value} {n : Nat} {l : List Value} (h : W.ownsRow B t s v n l) {p : Addr} (hp : p.block < B) (x : Value) : (W.setCell p x).ownsRow B t s v n l := by
  have g : Below p.block W (W.setCell p x) := (Below.refl _ _).setCell (Nat.le_refl _) x
  refine h.kept (row := some p.block) ⟨g.os, g.tape, g.output, g.size, fun k hk hne => ?_⟩ ?_
  · exact Below.heap_setCell W p x k (fun e => hne (by rw [e]))
  · rcases hv : v.ownBlock with _ | g'
    · exact .inl rfl
    · refine .inr fun e => ?_
      have := (h.lt g' hv).1
      cases e
      omega
end Go.Proofs.YticdmepplfgdiaaGreatDoor
end
section
namespace Go.Proofs.YticdmepplfgdiaaGreatDoor
open Go.RowKit
/-- an empty map stands there -/
def NoMap (W : World) (b : Nat) : Prop := ∃ clock, W.heap[b]? = some (.map #[] clock)
def WheelAt (W : World) (b mb : Nat) (room turn : Int) : Prop := Bx W b [.int .i64 room, .int .i64 turn, .map (some mb)] ∧ NoMap W mb
set_option maxRecDepth 100000 in
set_option maxHeartbeats 1000000 in
theorem wheel_len (b mb : Nat) (room turn : Int) (w : World) (h : WheelAt w b mb room turn) : Calls Tryz.prog 201 #[.pointer (some ⟨b, 0, none⟩)] w fun e w' => e = .returned (.int .i64 0) ∧ w' = w := by
  obtain ⟨h1, clock, h2⟩ := h
  have c2 := h1.get 2 _ rfl
  have hrun := fun ty => run_len_map (P := Tryz.prog) (w := w) 299 ty mb #[] clock (by kernel_rfl) h2
  clear h1 h2
  go_enter Tryz.func201, Tryz.ntmps201
  go_wp2
  go_ret
  exact ⟨rfl, rfl⟩
set_option maxRecDepth 100000 in
set_option maxHeartbeats 1000000 in
theorem wheel_next (b mb : Nat) (room turn : Int) (w : World) (h : WheelAt w b mb room turn) : Calls Tryz.prog 135 #[.pointer (some ⟨b, 0, none⟩)] w fun e w' => e = .returned (.tuple #[.int .i64 0, .bool false]) ∧ w' = w := by
  have HL := Lib.hid (wheel_len b mb room turn w h)
  clear h
  go_enter Tryz.func135, Tryz.ntmps135
  go_wp2_with (go_at_call 201; (with_reducible refine HL.out.mono ?_); rintro e w1 ⟨rfl, rfl⟩)
  exact bodyPost_ret (v := .tuple #[.int .i64 0, .bool false]) (by simp [results, Tryz.results135, go_sem]) rfl ⟨rfl, rfl⟩
/-- questions that wait: none -/
def AsksAt (W : World) (a b mb qb : Nat) (count gap turn room wt : Int) : Prop := Bx W a [.int .i64 count, .int .i64 gap, .int .i64 turn, .pointer (some ⟨b, 0, none⟩), .map (some qb)] ∧ WheelAt W b mb room wt
set_option maxRecDepth 100000 in
set_option maxHeartbeats 1000000 in
theorem asks_due (a b mb qb : Nat) (count gap turn room wt now : Int) (w : World) (h : AsksAt w a b mb qb count gap turn room wt) : Calls Tryz.prog 60 #[.pointer (some ⟨a, 0, none⟩), .int .i64 now] w fun e w' => e = .returned (.slice none 0 0) ∧ w' = w := by
  have HN := Lib.hid (wheel_next b mb room wt w h.2)
  have c3 := h.1.get 3 _ rfl
  clear h
  go_enter Tryz.func60, Tryz.ntmps60
  go_wp2
  go_loopw [5] (fun l wr => l = .slice none 0 0 ∧ wr = w) (fun _ _ => 0)
  case atStart => exact ⟨rfl, rfl⟩
  case round =>
    obtain ⟨rfl, rfl⟩ := hrel
    go_wp2_with (go_at_call 135; (with_reducible refine HN.out.mono ?_); rintro e w1 ⟨rfl, rfl⟩)
    go_ret
    exact ⟨rfl, rfl⟩
end Go.Proofs.YticdmepplfgdiaaGreatDoor
end
section
namespace Go.Proofs.YticdmepplfgdiaaGreatDoor
open Go.RowKit
theorem next_empty (w : World) (ty : TypeId) (bm clock : Nat) (hb : w.heap[bm]? = some (.map #[] clock)) :
    (Instr.next (.pointer (some ⟨w.heap.size, 0, none⟩)) false ty).run Tryz.prog (w.alloc (.mapIter (some bm) clock #[] clock)) = .ok (.tuple #[.bool false]) (w.alloc (.mapIter (some bm) clock #[] clock)) := by
  rcases run_next_map (P := Tryz.prog) w ty bm clock clock #[] #[] clock hb (fun x hx => by simp at hx) (Nat.le_refl _) with ⟨_, h⟩ | ⟨e, he, _⟩
  · exact h
  · simp [leftOf] at he
/-- what is heard of routers: nothing -/
def PortsAt (W : World) (b fm hm : Nat) (age : Int) : Prop := Bx W b [.int .i64 age, .map (some fm), .map (some hm)] ∧ NoMap W fm ∧ NoMap W hm
set_option maxRecDepth 100000 in
set_option maxHeartbeats 2000000 in
theorem forget_any (b fm hm : Nat) (age : Int) (f : Value) (w : World) (h : PortsAt w b fm hm age) : Calls Tryz.prog 100 #[.pointer (some ⟨b, 0, none⟩), f] w fun e w' => e = .returned (.int .i64 0) ∧ Below w.heap.size w w' := by
  obtain ⟨h1, -, clock, h2⟩ := h
  have c2 := h1.get 2 _ rfl
  have hrg := run_range_map (P := Tryz.prog) w 205 _ _ hm #[] clock Tryz.underlying205 h2
  have hnx := fun ty => next_empty w ty hm clock h2
  clear h1 h2
  go_enter Tryz.func100, Tryz.ntmps100
  go_wp2
  go_loopw [5] (fun n wr => n = .int .i64 0 ∧ wr = w.alloc (.mapIter (some hm) clock #[] clock)) (fun _ _ => 0)
  case atStart => exact ⟨rfl, rfl⟩
  case round =>
    obtain ⟨rfl, rfl⟩ := hrel
    go_wp2
    go_ret
    exact ⟨rfl, bbox1 _ _⟩
theorem NoMap.below {W W' : World} {b : Nat} (h : NoMap W b) (g : Below W.heap.size W W') : NoMap W' b := by
  obtain ⟨clock, h⟩ := h
  refine ⟨clock, (g.block b ?_).trans h⟩
  rcases Nat.lt_or_ge b W.heap.size with h' | h'
  · exact h'
  · simp [Array.getElem?_eq_none h'] at h
theorem NoMap.beside {S : List Nat} {W W' : World} {b : Nat} (h : NoMap W b) (g : Beside S W W') (hb : b ∉ S) : NoMap W' b := by
  obtain ⟨clock, h⟩ := h
  refine ⟨clock, (g.block b ?_ hb).trans h⟩
  rcases Nat.lt_or_ge b W.heap.size with h' | h'
  · exact h'
  · simp [Array.getElem?_eq_none h'] at h
theorem PortsAt.below {W W' : World} {b fm hm : Nat} {age : Int} (h : PortsAt W b fm hm age) (g : Below W.heap.size W W') : PortsAt W' b fm hm age := ⟨h.1.below g, h.2.1.below g, h.2.2.below g⟩
set_option maxRecDepth 100000 in
set_option maxHeartbeats 2000000 in
theorem ports_expire (b fm hm : Nat) (age now : Int) (w : World) (h : PortsAt w b fm hm age) : Calls Tryz.prog 54 #[.pointer (some ⟨b, 0, none⟩), .int .i64 now] w fun e w' => e = .returned (.int .i64 0) ∧ Below w.heap.size w w' := by
  have HF := Lib.hid (fun (f : Value) (W : World) (g : Below w.heap.size w W) => forget_any b fm hm age f W (h.below g))
  clear h
  go_enter Tryz.func54, Tryz.ntmps54
  go_wp2_with (go_at_call 100; refine (HF.out _ _ (ball1 (bbox1 _ _) _)).mono ?_; rintro e w1 ⟨rfl, g1⟩)
  go_ret
  exact ⟨rfl, bstep (ball1 (bbox1 _ _) _) g1⟩
/-- where stations were heard: none -/
def NoneAt (W : World) (b mb : Nat) (room age : Int) : Prop := Bx W b [.int .i64 room, .int .i64 age, .map (some mb)] ∧ NoMap W mb
theorem NoneAt.below {W W' : World} {b mb : Nat} {room age : Int} (h : NoneAt W b mb room age) (g : Below W.heap.size W W') : NoneAt W' b mb room age := ⟨h.1.below g, h.2.below g⟩
set_option maxRecDepth 100000 in
set_option maxHeartbeats 2000000 in
theorem take_any (b mb : Nat) (room age : Int) (f : Value) (w : World) (h : NoneAt w b mb room age) : Calls Tryz.prog 97 #[.pointer (some ⟨b, 0, none⟩), f] w fun e w' => e = .returned (.int .i64 0) ∧ Below w.heap.size w w' := by
  obtain ⟨h1, clock, h2⟩ := h
  have c2 := h1.get 2 _ rfl
  have lt := h1.1
  have hrg := run_range_map (P := Tryz.prog) w 197 _ _ mb #[] clock Tryz.underlying197 h2
  have hnx := fun ty => next_empty w ty mb clock h2
  have hle := fun ty => run_len_map (P := Tryz.prog) (w := w) 197 ty mb #[] clock (by kernel_rfl) h2
  have hl2 := fun ty => run_len_map (P := Tryz.prog) (w := w.alloc (.mapIter (some mb) clock #[] clock)) 197 ty mb #[] clock (by kernel_rfl) (((bbox1 w (.mapIter (some mb) clock #[] clock)).block mb (by rcases Nat.lt_or_ge mb w.heap.size with h' | h'; exact h'; simp [Array.getElem?_eq_none h'] at h2)).trans h2)
  clear h1 h2
  go_enter Tryz.func97, Tryz.ntmps97
  go_wp2
  go_loopw [] (fun wr => wr = w.alloc (.mapIter (some mb) clock #[] clock)) (fun _ => 0)
  case atStart => rfl
  case round =>
    obtain rfl := hrel
    go_wp2
    go_ret
    exact ⟨by simp, bbox1 _ _⟩
set_option maxRecDepth 100000 in
set_option maxHeartbeats 2000000 in
theorem none_expire (b mb : Nat) (room age now : Int) (h0 : 0 ≤ now) (h1 : now ≤ 1099511627776) (w : World) (h : NoneAt w b mb room age) : Calls Tryz.prog 53 #[.pointer (some ⟨b, 0, none⟩), .int .i64 now] w fun e w' => e = .returned (.int .i64 0) ∧ Below w.heap.size w w' := by
  have hin : inside now 0 1099511627776 = true := by unfold inside; rw [decide_eq_true h0, decide_eq_true h1]; rfl
  have HW := Lib.hid (fdb_within now 0 1099511627776)
  rw [hin] at HW
  have HF := Lib.hid (fun (f : Value) (W : World) (g : Below w.heap.size w W) => take_any b mb room age f W (h.below g))
  clear h
  go_enter Tryz.func53, Tryz.ntmps53
  go_wp2_with (first | (go_at_call 110; (with_reducible refine (HW.out _).mono ?_); rintro e w1 ⟨rfl, rfl⟩) | (go_at_call 97; refine (HF.out _ _ (ball1 (bbox1 _ _) _)).mono ?_; rintro e w1 ⟨rfl, g1⟩))
  go_ret
  exact ⟨rfl, bstep (ball1 (bbox1 _ _) _) g1⟩
set_option maxRecDepth 100000 in
set_option maxHeartbeats 2000000 in
theorem none_flush (b mb : Nat) (room age port : Int) (w : World) (h : NoneAt w b mb room age) : Calls Tryz.prog 37 #[.pointer (some ⟨b, 0, none⟩), .int .i64 port] w fun e w' => e = .returned (.int .i64 0) ∧ Below w.heap.size w w' := by
  have HF := Lib.hid (fun (f : Value) (W : World) (g : Below w.heap.size w W) => take_any b mb room age f W (h.below g))
  clear h
  go_enter Tryz.func37, Tryz.ntmps37
  go_wp2_with (go_at_call 97; refine (HF.out _ _ (bbox1 _ _)).mono ?_; rintro e w1 ⟨rfl, g1⟩)
  go_ret
  exact ⟨rfl, bstep (bbox1 _ _) g1⟩
end Go.Proofs.YticdmepplfgdiaaGreatDoor
end
section
namespace Go.Proofs.YticdmepplfgdiaaGreatDoor
open Go.RowKit
def ROfs (n m : Int) (v : ByteArray) : Prop :=
  ∀ w : World, Calls Tryz.prog 81 #[.int .i64 n, .int .i64 m] w fun e w' => e = .returned (.string v) ∧ Below w.heap.size w w'
theorem ROfs.to {n m : Int} {v : ByteArray} (h : ROfs n m v) (w : World) : Calls Tryz.prog 81 #[.int .i64 n, .int .i64 m] w fun e w' => e = .returned (.string v) ∧ Below w.heap.size w w' := h w
theorem rofs2 (n : Nat) (h : n < 65536) : ROfs n 2 ⟨(Pl.be 2 n).toArray⟩ := fun w => rof2 n h w
end Go.Proofs.YticdmepplfgdiaaGreatDoor
end
section
namespace Go.Proofs.YticdmepplfgdiaaGreatDoor
open Go.RowKit
theorem nomap_new (W : World) : NoMap (W.alloc (.map #[] 0)) W.heap.size := ⟨0, by show (W.heap.push _)[W.heap.size]? = _; rw [Array.getElem?_push_size]⟩
set_option maxRecDepth 100000 in
set_option maxHeartbeats 2000000 in
theorem fdb_new (w : World) : Calls Tryz.prog 29 #[.int .i64 50, .int .i64 100] w fun e w' => e = .returned (.tuple #[.pointer (some ⟨w.heap.size + 1, 0, none⟩), .int .i64 0]) ∧ NoneAt w' (w.heap.size + 1) w.heap.size 50 100 ∧ Below w.heap.size w w' := by
  have hmm := @run_makeMap Tryz.prog
  go_enter Tryz.func29, Tryz.ntmps29
  go_wp2
  exact bodyPost_ret (v := .tuple #[.pointer (some ⟨w.heap.size + 1, 0, none⟩), .int .i64 0]) (by simp [results, Tryz.results29, go_sem]) rfl ⟨rfl, ⟨Bx.new2 w _ [.int .i64 50, .int .i64 100, .map (some w.heap.size)] _, (nomap_new w).below (bbox1 _ _)⟩, ball1 (bbox1 _ _) _⟩
set_option maxRecDepth 100000 in
set_option maxHeartbeats 2000000 in
theorem wheel_new (w : World) : Calls Tryz.prog 92 #[.int .i64 200] w fun e w' => e = .returned (.tuple #[.pointer (some ⟨w.heap.size + 1, 0, none⟩), .int .i64 0]) ∧ WheelAt w' (w.heap.size + 1) w.heap.size 200 0 ∧ Below w.heap.size w w' := by
  have hmm := @run_makeMap Tryz.prog
  go_enter Tryz.func92, Tryz.ntmps92
  go_wp2
  exact bodyPost_ret (v := .tuple #[.pointer (some ⟨w.heap.size + 1, 0, none⟩), .int .i64 0]) (by simp [results, Tryz.results92, go_sem]) rfl ⟨rfl, ⟨Bx.new2 w _ [.int .i64 200, .int .i64 0, .map (some w.heap.size)] _, (nomap_new w).below (bbox1 _ _)⟩, ball1 (bbox1 _ _) _⟩
theorem Bx.new3 (W : World) (o u : Obj) (vs : List Value) (t : TypeId) : Bx (((W.alloc o).alloc u).alloc (.cells vs.toArray t)) (W.heap.size + 2) vs := by
  have h := Bx.new2 (W.alloc o) u vs t
  rwa [World.size_alloc] at h
theorem nomap_new2 (W : World) (o : Obj) : NoMap ((W.alloc o).alloc (.map #[] 0)) (W.heap.size + 1) := by
  have h := nomap_new (W.alloc o)
  rwa [World.size_alloc] at h
set_option maxRecDepth 100000 in
set_option maxHeartbeats 2000000 in
theorem router_new (w : World) : Calls Tryz.prog 31 #[.int .i64 100] w fun e w' => e = .returned (.tuple #[.pointer (some ⟨w.heap.size + 2, 0, none⟩), .int .i64 0]) ∧ PortsAt w' (w.heap.size + 2) w.heap.size (w.heap.size + 1) 100 ∧ Below w.heap.size w w' := by
  have hmm := @run_makeMap Tryz.prog
  go_enter Tryz.func31, Tryz.ntmps31
  go_wp2
  exact bodyPost_ret (v := .tuple #[.pointer (some ⟨w.heap.size + 2, 0, none⟩), .int .i64 0]) (by simp [results, Tryz.results31, go_sem]) rfl ⟨rfl, ⟨Bx.new3 w _ _ [.int .i64 100, .map (some w.heap.size), .map (some (w.heap.size + 1))] _, ((nomap_new w).below (bbox1 _ _)).below (bbox1 _ _), (nomap_new2 w _).below (bbox1 _ _)⟩, ball1 (ball1 (bbox1 _ _) _) _⟩
theorem WheelAt.below {W W' : World} {b mb : Nat} {room turn : Int} (h : WheelAt W b mb room turn) (g : Below W.heap.size W W') : WheelAt W' b mb room turn := ⟨h.1.below g, h.2.below g⟩
theorem table_in {n a b : Int} (h : inside n a b = true) (W : World) : Calls Tryz.prog 90 #[.int .i64 n, .int .i64 a, .int .i64 b] W fun e w' => e = .returned (.bool true) ∧ w' = W := by
  have h2 := table_within n a b W
  rwa [h] at h2
theorem querier_in {n a b : Int} (h : inside n a b = true) (W : World) : Calls Tryz.prog 91 #[.int .i64 n, .int .i64 a, .int .i64 b] W fun e w' => e = .returned (.bool true) ∧ w' = W := by
  have h2 := querier_within n a b W
  rwa [h] at h2
set_option maxRecDepth 100000 in
set_option maxHeartbeats 2000000 in
theorem asks_new (w : World) : Calls Tryz.prog 32 #[.int .i64 2, .int .i64 2] w fun e w' => ∃ a b mb qb, e = .returned (.tuple #[.pointer (some ⟨a, 0, none⟩), .int .i64 0]) ∧ AsksAt w' a b mb qb 2 2 0 200 0 ∧ w.heap.size ≤ mb ∧ mb < b ∧ b < qb ∧ qb < a ∧ a < w'.heap.size ∧ Below w.heap.size w w' := by
  have hmm := @run_makeMap Tryz.prog
  have HW := Lib.hid wheel_new
  have HI := Lib.hid (fun W => querier_in (n := 2) (a := 1) (b := 7) (by decide) W)
  have HJ := Lib.hid (fun W => querier_in (n := 2) (a := 1) (b := 1000) (by decide) W)
  go_enter Tryz.func32, Tryz.ntmps32
  go_wp2_with (first | (go_at_call 91; (with_reducible refine (HI.out _).mono ?_); rintro e w1 ⟨rfl, rfl⟩) | (go_at_call 91; (with_reducible refine (HJ.out _).mono ?_); rintro e w1 ⟨rfl, rfl⟩) | (go_at_call 92; (with_reducible refine (HW.out _).mono ?_); rintro e w2 ⟨rfl, H2, g2⟩))
  have s2 := g2.size
  exact bodyPost_ret (v := .tuple #[.pointer (some ⟨w2.heap.size + 1, 0, none⟩), .int .i64 0]) (by simp [results, Tryz.results32, go_sem]) rfl
    ⟨w2.heap.size + 1, w1.heap.size + 1, w1.heap.size, w2.heap.size, rfl, ⟨Bx.new2 w2 _ [.int .i64 2, .int .i64 2, .int .i64 0, .pointer (some ⟨w1.heap.size + 1, 0, none⟩), .map (some w2.heap.size)] _, (H2.below (bbox1 _ _)).below (bbox1 _ _)⟩, Nat.le_refl _, Nat.lt_succ_self _, H2.1.1, Nat.lt_succ_self _, by simp, ball1 (ball1 g2 _) _⟩
/-- what is known of groups: nothing -/
def BareAt (W : World) (b sm om : Nat) (room member last : Int) : Prop := Bx W b [.int .i64 room, .int .i64 member, .int .i64 last, .map (some sm), .map (some om)] ∧ NoMap W sm ∧ NoMap W om
theorem BareAt.below {W W' : World} {b sm om : Nat} {room member last : Int} (h : BareAt W b sm om room member last) (g : Below W.heap.size W W') : BareAt W' b sm om room member last := ⟨h.1.below g, h.2.1.below g, h.2.2.below g⟩
theorem Bx.new4 (W : World) (o u v : Obj) (vs : List Value) (t : TypeId) : Bx ((((W.alloc o).alloc u).alloc v).alloc (.cells vs.toArray t)) (W.heap.size + 3) vs := by
  have h := Bx.new3 (W.alloc o) u v vs t
  rwa [World.size_alloc] at h
theorem nomap_new3 (W : World) (o u : Obj) : NoMap (((W.alloc o).alloc u).alloc (.map #[] 0)) (W.heap.size + 2) := by
  have h := nomap_new2 (W.alloc o) u
  rwa [World.size_alloc] at h
set_option maxRecDepth 100000 in
set_option maxHeartbeats 2000000 in
theorem table_new (w : World) : Calls Tryz.prog 30 #[.int .i64 50, .agg #[.int .i64 60, .int .i64 2]] w fun e w' => e = .returned (.tuple #[.pointer (some ⟨w.heap.size + 3, 0, none⟩), .int .i64 0]) ∧ BareAt w' (w.heap.size + 3) (w.heap.size + 1) (w.heap.size + 2) 50 60 2 ∧ Below w.heap.size w w' := by
  have hmm := @run_makeMap Tryz.prog
  have HI := Lib.hid (fun W => table_in (n := 50) (a := 1) (b := 4096) (by decide) W)
  have HJ := Lib.hid (fun W => table_in (n := 60) (a := 1) (b := 1000000) (by decide) W)
  have HK := Lib.hid (fun W => table_in (n := 2) (a := 1) (b := 1000000) (by decide) W)
  go_enter Tryz.func30, Tryz.ntmps30
  go_wp2_with (first | (go_at_call 90; (with_reducible refine (HI.out _).mono ?_); rintro e w1 ⟨rfl, rfl⟩) | (go_at_call 90; (with_reducible refine (HJ.out _).mono ?_); rintro e w1 ⟨rfl, rfl⟩) | (go_at_call 90; (with_reducible refine (HK.out _).mono ?_); rintro e w1 ⟨rfl, rfl⟩))
  exact bodyPost_ret (v := .tuple #[.pointer (some ⟨w.heap.size + 3, 0, none⟩), .int .i64 0]) (by simp [results, Tryz.results30, go_sem]) rfl
    ⟨rfl, ⟨Bx.new4 w _ _ _ [.int .i64 50, .int .i64 60, .int .i64 2, .map (some (w.heap.size + 1)), .map (some (w.heap.size + 2))] _, ((nomap_new2 w _).below (bbox1 _ _)).below (bbox1 _ _), (nomap_new3 w _ _).below (bbox1 _ _)⟩, ball1 (ball1 (ball1 (bbox1 _ _) _) _) _⟩
set_option maxRecDepth 100000 in
set_option maxHeartbeats 2000000 in
theorem index_first (g : Nat) (n : Int) (w : World) (h : w.cell? ⟨g, 0, none⟩ = some (.int .i64 n)) : Calls Tryz.prog 160 #[.slice (some ⟨g, 0, none⟩) 3 3, .int .i64 n] w fun e w' => e = .returned (.int .i64 0) ∧ w' = w := by
  go_enter Tryz.func160, Tryz.ntmps160
  go_wp2
  go_loopw [5, 8] (fun _ i wr => i = .int .i64 0 ∧ wr = w) (fun _ _ _ => 0)
  case atStart => exact ⟨rfl, rfl⟩
  case round =>
    obtain ⟨rfl, rfl⟩ := hrel
    go_wp2
    go_ret
    exact ⟨rfl, rfl⟩
set_option maxRecDepth 100000 in
set_option maxHeartbeats 2000000 in
theorem contains_first (g : Nat) (n : Int) (w : World) (h : w.cell? ⟨g, 0, none⟩ = some (.int .i64 n)) : Calls Tryz.prog 93 #[.slice (some ⟨g, 0, none⟩) 3 3, .int .i64 n] w fun e w' => e = .returned (.bool true) ∧ w' = w := by
  have HI := Lib.hid (index_first g n w h)
  clear h
  go_enter Tryz.func93, Tryz.ntmps93
  go_wp2_with ((with_reducible refine HI.out.mono ?_); rintro e w' ⟨rfl, rfl⟩)
  go_ret
  exact ⟨rfl, rfl⟩
set_option maxRecDepth 100000 in
set_option maxHeartbeats 2000000 in
theorem querier_new (w : World) : Calls Tryz.prog 33 #[.string ⟨#[]⟩, .int .i64 20, .int .i64 2, .int .i64 1] w fun e w' => e = .returned (.tuple #[.pointer (some ⟨w.heap.size + 1, 0, none⟩), .int .i64 0]) ∧ QuietAt w' (w.heap.size + 1) 20 2 0 ∧ Below w.heap.size w w' := by
  have HC := Lib.hid contains_first
  have HI := Lib.hid (fun W => querier_in (n := 20) (a := 4) (b := 100000) (by decide) W)
  have HJ := Lib.hid (fun W => querier_in (n := 2) (a := 1) (b := 7) (by decide) W)
  have HK := Lib.hid (fun W => querier_in (n := 1) (a := 0) (b := 1099511627776) (by decide) W)
  go_enter Tryz.func33, Tryz.ntmps33
  go_wp2_with (first | (go_at_call 93; refine (HC.out _ _ _ (by go_simp)).mono ?_; rintro e w1 ⟨rfl, rfl⟩) | (go_at_call 91; (with_reducible refine (HI.out _).mono ?_); rintro e w1 ⟨rfl, rfl⟩) | (go_at_call 91; (with_reducible refine (HJ.out _).mono ?_); rintro e w1 ⟨rfl, rfl⟩) | (go_at_call 91; (with_reducible refine (HK.out _).mono ?_); rintro e w1 ⟨rfl, rfl⟩))
  exact bodyPost_ret (v := .tuple #[.pointer (some ⟨w.heap.size + 1, 0, none⟩), .int .i64 0]) (by simp [results, Tryz.results33, go_sem]) rfl
    ⟨rfl, ⟨1, 0, Bx.new2 w _ [.string ⟨#[]⟩, .int .i64 20, .int .i64 2, .int .i64 0, .int .i64 1, .int .i64 0] _⟩, ball1 (bbox1 _ _) _⟩
end Go.Proofs.YticdmepplfgdiaaGreatDoor
end
