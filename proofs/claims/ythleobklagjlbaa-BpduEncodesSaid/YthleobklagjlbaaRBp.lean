/-
  What the document's own answers on the tree's messages (siphonref06) compute. Conditions: those of each.
-/
import Derived.Test.YthleobklagjlbaaRGet
import Derived.Test.YthleobklagjlbaaRWide
import Derived.Test.YthleobklagjlbaaROf
import Derived.Test.YthleobklagjlbaaREight
import Derived.Test.YthleobklagjlbaaLaw06
namespace Go.Proofs.Ythleobklagjlbaa
open Go.RowKit

theorem rat_ok (s : ByteArray) (a n : Nat) (hs : s.size ≤ 9223372036854775807) (h1 : 1 ≤ n) (h4 : n ≤ 4) (h : a + n ≤ s.size) (w : World) :
    Calls Try.prog 19 #[.string s, .int .i64 a, .int .i64 n] w fun e w' => e = .returned (.int .i64 (Pl.num ((s.data.toList.drop a).take n))) ∧ Below w.heap.size w w' := by
  have hg := fun w => rget_ok s a n hs h1 h4 h w
  go_enter Try.func19, Try.ntmps19
  go_wp2_with ((with_reducible refine (hg _).mono ?_); rintro e w1 ⟨rfl, g1⟩)
  go_ret
  exact ⟨rfl, g1⟩

def RWides (s : ByteArray) (a : Int) (n : Int) : Prop :=
  ∀ w : World, Calls Try.prog 18 #[.string s, .int .i64 a] w fun e w' => e = .returned (.tuple #[.int .u64 n, .int .i64 0]) ∧ Below w.heap.size w w'
theorem RWides.to {s : ByteArray} {a n : Int} (h : RWides s a n) (w : World) : Calls Try.prog 18 #[.string s, .int .i64 a] w fun e w' => e = .returned (.tuple #[.int .u64 n, .int .i64 0]) ∧ Below w.heap.size w w' := h w
def RAts (s : ByteArray) (a k n : Int) : Prop :=
  ∀ w : World, Calls Try.prog 19 #[.string s, .int .i64 a, .int .i64 k] w fun e w' => e = .returned (.int .i64 n) ∧ Below w.heap.size w w'
theorem RAts.to {s : ByteArray} {a k n : Int} (h : RAts s a k n) (w : World) : Calls Try.prog 19 #[.string s, .int .i64 a, .int .i64 k] w fun e w' => e = .returned (.int .i64 n) ∧ Below w.heap.size w w' := h w
def ROfs (n m : Int) (v : ByteArray) : Prop :=
  ∀ w : World, Calls Try.prog 24 #[.int .i64 n, .int .i64 m] w fun e w' => e = .returned (.string v) ∧ Below w.heap.size w w'
theorem ROfs.to {n m : Int} {v : ByteArray} (h : ROfs n m v) (w : World) : Calls Try.prog 24 #[.int .i64 n, .int .i64 m] w fun e w' => e = .returned (.string v) ∧ Below w.heap.size w w' := h w
def REights (n : Int) (v : ByteArray) : Prop :=
  ∀ w : World, Calls Try.prog 25 #[.int .u64 n] w fun e w' => e = .returned (.string v) ∧ Below w.heap.size w w'
theorem REights.to {n : Int} {v : ByteArray} (h : REights n v) (w : World) : Calls Try.prog 25 #[.int .u64 n] w fun e w' => e = .returned (.string v) ∧ Below w.heap.size w w' := h w

set_option maxRecDepth 100000 in
set_option maxHeartbeats 1000000 in
theorem rdec_cut (s : ByteArray) (hs : s.size < 39) (w : World) :
    Calls Try.prog 10 #[.string s] w fun e w' => e = .returned (.tuple #[zeroB, .int .i64 2]) ∧ Below w.heap.size w w' := by
  go_enter Try.func10, Try.ntmps10
  go_wp2
  exact bodyPost_ret (v := .tuple #[zeroB, .int .i64 2]) (by simp [zeroB, results, Try.results10, go_sem]) rfl ⟨rfl, by go_grown⟩

set_option maxRecDepth 100000 in
set_option maxHeartbeats 1000000 in
theorem rdec_form (s : ByteArray) (hs : 39 ≤ s.size) (hl : s.size ≤ 281474976710656) (hg : Bp.good s.data.toList = false) (w : World) :
    Calls Try.prog 10 #[.string s] w fun e w' => e = .returned (.tuple #[zeroB, .int .i64 3]) ∧ Below w.heap.size w w' := by
  have hbt := PlainAid.get_bt s
  have hc : Bp.pre s.data.toList = false ∨ (Bp.pre s.data.toList = true ∧ (PlainAid.bt s 31 != 0) = true) ∨ (Bp.pre s.data.toList = true ∧ (PlainAid.bt s 31 != 0) = false ∧ (PlainAid.bt s 38 != 0) = true) := by
    have z : ∀ b : UInt8, ((b.toNat : Int) != 0) = !(b == 0) := by
      intro b
      rw [Bool.eq_iff_iff, bne_iff_ne, Bool.not_eq_true', beq_eq_false_iff_ne, ne_eq, ne_eq, ← UInt8.toNat_inj]
      simp
    rw [bt_getD, bt_getD, z, z]
    exact and3 hg
  have hb : ((s.extract 0 7).toList == [66, 66, 3, 0, 0, 2, 2]) = Bp.pre s.data.toList := by
    rw [Lib.toList_data, data_extract]
    rfl
  clear hg
  rcases hc with h1 | ⟨h1, h2⟩ | ⟨h1, h2, h3⟩
  all_goals
    rw [h1] at hb
    go_enter Try.func10, Try.ntmps10
    go_wp2
    exact bodyPost_ret (v := .tuple #[zeroB, .int .i64 3]) (by simp [zeroB, results, Try.results10, go_sem]) rfl ⟨rfl, by go_grown⟩
set_option maxRecDepth 100000 in
set_option maxHeartbeats 1000000 in
theorem rmay_no (r b c p a : Int) (x y z : Bool) (h : c < 0 ∨ 4294967295 < c ∨ p < 0 ∨ 65535 < p ∨ a < 0 ∨ 255 < a) (w : World) :
    Calls Try.prog 23 #[.agg #[.int .u64 r, .int .i64 c, .int .u64 b, .int .i64 p, .int .i64 a, .bool x, .bool y, .bool z]] w fun e w' => e = .returned (.bool false) ∧ Below w.heap.size w w' := by
  have hc : decide (0 ≤ c) = false ∨ (decide (0 ≤ c) = true ∧ decide (c ≤ 4294967295) = false) ∨ (decide (0 ≤ c) = true ∧ decide (c ≤ 4294967295) = true ∧ decide (0 ≤ p) = false) ∨ (decide (0 ≤ c) = true ∧ decide (c ≤ 4294967295) = true ∧ decide (0 ≤ p) = true ∧ decide (p ≤ 65535) = false) ∨
      (decide (0 ≤ c) = true ∧ decide (c ≤ 4294967295) = true ∧ decide (0 ≤ p) = true ∧ decide (p ≤ 65535) = true ∧ decide (0 ≤ a) = false) ∨ (decide (0 ≤ c) = true ∧ decide (c ≤ 4294967295) = true ∧ decide (0 ≤ p) = true ∧ decide (p ≤ 65535) = true ∧ decide (0 ≤ a) = true ∧ decide (a ≤ 255) = false) := by
    simp only [decide_eq_true_eq, decide_eq_false_iff_not]
    omega
  clear h
  rcases hc with h1 | ⟨h1, h2⟩ | ⟨h1, h2, h3⟩ | ⟨h1, h2, h3, h4⟩ | ⟨h1, h2, h3, h4, h5⟩ | ⟨h1, h2, h3, h4, h5, h6⟩
  all_goals
    go_enter Try.func23, Try.ntmps23
    go_wp2
    go_ret
    exact ⟨rfl, bbox1 _ _⟩

set_option maxRecDepth 100000 in
set_option maxHeartbeats 1000000 in
theorem rmay_yes (r b c p a : Int) (x y z : Bool) (hc0 : 0 ≤ c) (hc : c ≤ 4294967295) (hp0 : 0 ≤ p) (hp : p ≤ 65535) (ha0 : 0 ≤ a) (ha : a ≤ 255) (w : World) :
    Calls Try.prog 23 #[.agg #[.int .u64 r, .int .i64 c, .int .u64 b, .int .i64 p, .int .i64 a, .bool x, .bool y, .bool z]] w fun e w' => e = .returned (.bool true) ∧ Below w.heap.size w w' := by
  have h1 := decide_eq_true hc0
  have h2 := decide_eq_true hc
  have h3 := decide_eq_true hp0
  have h4 := decide_eq_true hp
  have h5 := decide_eq_true ha0
  have h6 := decide_eq_true ha
  clear hc0 hc hp0 hp ha0 ha
  go_enter Try.func23, Try.ntmps23
  go_wp2
  go_ret
  exact ⟨rfl, bbox1 _ _⟩
end Go.Proofs.Ythleobklagjlbaa
