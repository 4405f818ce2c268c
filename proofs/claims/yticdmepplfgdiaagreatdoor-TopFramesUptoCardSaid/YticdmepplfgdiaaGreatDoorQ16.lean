/-
  What the program's csum.Fill computes: the text with its sum put in. Condition: the texts' lengths lie within the form's own reach.
-/
import Derived.Deep.RegionWith
import Derived.StillTailTactics
import Derived.Test.YticdmepplfgdiaaGreatDoorQ04
import Derived.Test.YticdmepplfgdiaaGreatDoorQ03
import Derived.Test.YticdmepplfgdiaaGreatDoorQ00
set_option linter.unusedVariables false
set_option linter.unusedSimpArgs false
namespace Go.Proofs.YticdmepplfgdiaaGreatDoor
open Go.RowKit
theorem put2 (n : Nat) (h : n ≤ 65535) (w : World) :
    Calls Tryz.prog 69 #[.int .i64 n, .int .i64 2] w fun e w' => e = .returned (.tuple #[.string ⟨(Pl.be 2 n).toArray⟩, .int .i64 0]) ∧ Below w.heap.size w w' :=
  put_ok n 2 (by decide) (by decide) (by omega) (by omega) w
/-- a contract as a fact that the walk does not look into -/
def Put2s (n : Int) (v : ByteArray) : Prop :=
  ∀ w : World, Calls Tryz.prog 69 #[.int .i64 n, .int .i64 2] w fun e w' => e = .returned (.tuple #[.string v, .int .i64 0]) ∧ Below w.heap.size w w'
theorem Put2s.to {n : Int} {v : ByteArray} (h : Put2s n v) (w : World) : Calls Tryz.prog 69 #[.int .i64 n, .int .i64 2] w fun e w' => e = .returned (.tuple #[.string v, .int .i64 0]) ∧ Below w.heap.size w w' := h w
set_option maxHeartbeats 1000000 in
theorem fill_ok (p s : ByteArray) (a : Nat) (hp : p.size ≤ 140737488351232) (hs : s.size ≤ 140737488351232) (ha : a + 2 ≤ s.size) (he : a % 2 = 0) (hpe : p.size % 2 = 0) (w : World) :
    Calls Tryz.prog 64 #[.string p, .string s, .int .i64 a] w fun e w' => e = .returned (.tuple #[.string (Cs.filled p s a), .int .i64 0]) ∧ Below w.heap.size w w' := by
  have e1 : bits .and .i64 (a : Int) 1 = 0 := by rw [show (1 : Int) = ((1 : Nat) : Int) from rfl, i64_and_nat _ _ (by omega) (by omega), Nat.and_one_is_mod, he]; rfl
  have e2 : bits .and .i64 (p.size : Int) 1 = 0 := by rw [show (1 : Int) = ((1 : Nat) : Int) from rfl, i64_and_nat _ _ (by omega) (by omega), Nat.and_one_is_mod, hpe]; rfl
  have d1 : decide ((a : Int) < 0) = false := decide_eq_false (by omega)
  have d2 : decide ((s.size : Int) - 2 < (a : Int)) = false := decide_eq_false (by omega)
  have i1 : IntKind.i64.wrap ((a : Int) + 2) = (a : Int) + 2 := IntWalk.i64_in _ ⟨by omega, by omega⟩
  obtain ⟨x1, hx1⟩ : ∃ x, x = s.extract 0 a := ⟨_, rfl⟩
  obtain ⟨x2, hx2⟩ : ∃ x, x = s.extract (a + 2) s.size := ⟨_, rfl⟩
  have z1 : x1.size ≤ 140737488351232 := by rw [hx1, ByteArray.size_extract]; omega
  have z2 : x2.size ≤ 140737488351232 := by rw [hx2, ByteArray.size_extract]; omega
  have c1 := cut_to s a (by omega)
  have c2 := cut_from s a ha
  rw [← hx1] at c1
  rw [← hx2] at c2
  obtain ⟨y1, hy1⟩ : ∃ x, x = p ++ x1 := ⟨_, rfl⟩
  obtain ⟨y2, hy2⟩ : ∃ x, x = y1 ++ ⟨#[0, 0]⟩ := ⟨_, rfl⟩
  obtain ⟨y3, hy3⟩ : ∃ x, x = y2 ++ x2 := ⟨_, rfl⟩
  have sy1 : y1.size = p.size + x1.size := by rw [hy1, size_add]
  have sy2 : y2.size = y1.size + 2 := by rw [hy2, size_add]; rfl
  have sy3 : y3.size = y2.size + x2.size := by rw [hy3, size_add]
  have hz1 : x1.size ≤ a := by rw [hx1, ByteArray.size_extract]; omega
  have hz2 : x2.size + a + 2 ≤ s.size := by rw [hx2, ByteArray.size_extract]; omega
  have j1 := join2 p x1 (by omega)
  have j2 := join2 y1 ⟨#[0, 0]⟩ (by show y1.size + 2 ≤ _; omega)
  have j3 := join2 y2 x2 (by omega)
  rw [← hy1] at j1
  rw [← hy2] at j2
  rw [← hy3] at j3
  have hgap : y3 = Cs.gap p s a := by rw [hy3, hy2, hy1, hx1, hx2]; rfl
  obtain ⟨v, hv⟩ : ∃ v : ByteArray, v = ⟨(Pl.be 2 (Cs.sum y3.data.toList)).toArray⟩ := ⟨_, rfl⟩
  have sv : v.size = 2 := by rw [hv, size_mk, Pl.be_length]
  obtain ⟨u1, hu1⟩ : ∃ x, x = x1 ++ v := ⟨_, rfl⟩
  obtain ⟨u2, hu2⟩ : ∃ x, x = u1 ++ x2 := ⟨_, rfl⟩
  have su1 : u1.size = x1.size + v.size := by rw [hu1, size_add]
  have j4 := join2 x1 v (by omega)
  have j5 := join2 u1 x2 (by omega)
  rw [← hu1] at j4
  rw [← hu2] at j5
  have hres : u2 = Cs.filled p s a := by rw [hu2, hu1, hv, hgap, hx1, hx2]; rfl
  have hS : y3.size ≤ 281474976710656 := by omega
  have HR := Lib.hid hres
  have HV := Lib.hid hv
  have hle := Cs.sum_le y3.data.toList
  have hP : Put2s (Cs.sum y3.data.toList) v := fun w => by rw [hv]; exact put2 _ hle w
  clear he hpe hx1 hx2 z1 z2 hy1 hy2 hy3 sy1 sy2 sy3 hz1 hz2 hgap sv hu1 hu2 su1 hres hv
  go_enter Tryz.func64, Tryz.ntmps64
  go_wp2_with fail
  go_region_with (first | ((with_reducible refine (sum_any y3 hS _).mono ?_); rintro e w3 ⟨rfl, h3⟩) | ((with_reducible refine (hP.to _).mono ?_); rintro e w4 ⟨rfl, h4⟩))
  go_wp2_with fail
  go_quiet (fail)
  go_wp2
  go_ret2
  refine ⟨?_, ?_⟩
  · rw [← HR.out]; rfl
  · exact bdrew (bstep (bstep (Below.drew (Below.refl _ _)) h3) h4) _
end Go.Proofs.YticdmepplfgdiaaGreatDoor
