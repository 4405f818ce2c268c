/-
  What the reference's Pseudo (siphonref02) computes: the same as the program's. Condition: the numbers are of their kind.
-/
import Derived.Test.YtcheceapcimbmaaROf
import Derived.Test.YtcheceapcimbmaaPsPl
namespace Go.Proofs.Ytcheceapcimbmaa
open Go.RowKit

/-- a contract as a fact that the walk does not look into -/
def Ofs (n : Int) (m : Int) (v : ByteArray) : Prop :=
  ∀ w : World, Calls Try.prog 21 #[.int .i64 n, .int .i64 m] w fun e w' => e = .returned (.string v) ∧ Below w.heap.size w w'
theorem Ofs.to {n m : Int} {v : ByteArray} (h : Ofs n m v) (w : World) : Calls Try.prog 21 #[.int .i64 n, .int .i64 m] w fun e w' => e = .returned (.string v) ∧ Below w.heap.size w w' := h w

set_option maxHeartbeats 1000000 in
theorem rpseudo_4 (a b : ByteArray) (n p : Nat) (ha : a.size = 4) (hb : b.size = 4) (hn : n ≤ 65535) (hp : p ≤ 255) (w : World) :
    Calls Try.prog 14 #[.string a, .string b, .int .i64 n, .int .i64 p] w fun e w' => e = .returned (.tuple #[.string (Cs.ps4 a b n p), .int .i64 0]) ∧ Below w.heap.size w w' := by
  obtain ⟨x, hx⟩ : ∃ x : ByteArray, x = ⟨(Pl.be 1 p).toArray⟩ := ⟨_, rfl⟩
  obtain ⟨y, hy⟩ : ∃ x : ByteArray, x = ⟨(Pl.be 2 n).toArray⟩ := ⟨_, rfl⟩
  have sx : x.size ≤ 1 := by rw [hx, size_mk, Pl.be_length]; omega
  have sy : y.size ≤ 2 := by rw [hy, size_mk, Pl.be_length]; omega
  have hP : Ofs p 1 x := by rw [hx]; exact rof1 p (by omega)
  have hN : Ofs n 2 y := by rw [hy]; exact rof2 n (by omega)
  have d1 : decide ((p : Int) < 0) = false := decide_eq_false (by omega)
  have d2 : decide (255 < (p : Int)) = false := decide_eq_false (by omega)
  have d3 : decide ((n : Int) < 0) = false := decide_eq_false (by omega)
  have d4 : decide (65535 < (n : Int)) = false := decide_eq_false (by omega)
  have hres : a ++ b ++ ⟨#[0]⟩ ++ x ++ y = Cs.ps4 a b n p := by rw [hx, hy]; rfl
  have HR := Lib.hid hres
  clear hres hx hy
  go_enter Try.func14, Try.ntmps14
  go_wp2_with (first | ((with_reducible refine (hP.to _).mono ?_); rintro e w1 ⟨rfl, h1⟩) | ((with_reducible refine (hN.to _).mono ?_); rintro e w2 ⟨rfl, h2⟩))
  go_ret2
  exact ⟨by rw [← HR.out]; rfl, bstep h1 h2⟩

set_option maxHeartbeats 1000000 in
theorem rpseudo_16 (a b : ByteArray) (n p : Nat) (ha : a.size = 16) (hb : b.size = 16) (hn : n ≤ 65535) (hp : p ≤ 255) (w : World) :
    Calls Try.prog 14 #[.string a, .string b, .int .i64 n, .int .i64 p] w fun e w' => e = .returned (.tuple #[.string (Cs.ps16 a b n p), .int .i64 0]) ∧ Below w.heap.size w w' := by
  obtain ⟨x, hx⟩ : ∃ x : ByteArray, x = ⟨(Pl.be 1 p).toArray⟩ := ⟨_, rfl⟩
  obtain ⟨y, hy⟩ : ∃ x : ByteArray, x = ⟨(Pl.be 4 n).toArray⟩ := ⟨_, rfl⟩
  have sx : x.size ≤ 1 := by rw [hx, size_mk, Pl.be_length]; omega
  have sy : y.size ≤ 4 := by rw [hy, size_mk, Pl.be_length]; omega
  have hP : Ofs p 1 x := by rw [hx]; exact rof1 p (by omega)
  have hN : Ofs n 4 y := by rw [hy]; exact rof4 n (by omega)
  have d1 : decide ((p : Int) < 0) = false := decide_eq_false (by omega)
  have d2 : decide (255 < (p : Int)) = false := decide_eq_false (by omega)
  have d3 : decide ((n : Int) < 0) = false := decide_eq_false (by omega)
  have d4 : decide (65535 < (n : Int)) = false := decide_eq_false (by omega)
  have hres : a ++ b ++ y ++ ⟨#[0, 0, 0]⟩ ++ x = Cs.ps16 a b n p := by
    have e : (⟨(Pl.be 4 n).toArray⟩ : ByteArray) = ⟨#[0, 0]⟩ ++ ⟨(Pl.be 2 n).toArray⟩ := by
      have h := Pl.be_add 2 2 n
      rw [Nat.div_eq_of_lt (show n < 256 ^ 2 by omega)] at h
      rw [show (⟨#[0, 0]⟩ : ByteArray) = ⟨(Pl.be 2 0).toArray⟩ from rfl, ba_append, ← h]
    rw [hx, hy, e, ← ByteArray.append_assoc]
    rfl
  have HR := Lib.hid hres
  clear hres hx hy
  go_enter Try.func14, Try.ntmps14
  go_wp2_with (first | ((with_reducible refine (hP.to _).mono ?_); rintro e w1 ⟨rfl, h1⟩) | ((with_reducible refine (hN.to _).mono ?_); rintro e w2 ⟨rfl, h2⟩))
  go_ret2
  exact ⟨by rw [← HR.out]; rfl, bstep h2 h1⟩

set_option maxHeartbeats 2000000 in
theorem rpseudo_arg (a b : ByteArray) (n p : Int)
    (h : p < 0 ∨ 255 < p ∨ n < 0 ∨ 65535 < n ∨ a.size ≠ b.size ∨ (a.size ≠ 4 ∧ a.size ≠ 16)) (w : World) :
    Calls Try.prog 14 #[.string a, .string b, .int .i64 n, .int .i64 p] w fun e w' => e = .returned (.tuple #[.string ⟨#[]⟩, .int .i64 1]) ∧ w = w' := by
  have hE : (((a.size : Int) != (b.size : Int)) = true) ∨ (((a.size : Int) != (b.size : Int)) = false ∧ ((a.size : Int) != 4) = true ∧ ((a.size : Int) != 16) = true) ∨
      (((a.size : Int) != (b.size : Int)) = false ∧ ((((a.size : Int) != 4) = false) ∨ ((a.size : Int) != 4) = true ∧ ((a.size : Int) != 16) = false) ∧
        ((decide (p < 0) = true) ∨ (decide (p < 0) = false ∧ decide (255 < p) = true) ∨ (decide (p < 0) = false ∧ decide (255 < p) = false ∧ decide (n < 0) = true) ∨ (decide (p < 0) = false ∧ decide (255 < p) = false ∧ decide (n < 0) = false ∧ decide (65535 < n) = true))) := by
    simp only [bne_iff_ne, decide_eq_true_eq, decide_eq_false_iff_not, bne_eq_false_iff_eq, ne_eq]
    omega
  clear h
  rcases hE with h1 | ⟨h1, h2, h3⟩ | ⟨h1, h2 | ⟨h2, h3⟩, h4 | ⟨h4, h5⟩ | ⟨h4, h5, h6⟩ | ⟨h4, h5, h6, h7⟩⟩
  all_goals
    go_enter Try.func14, Try.ntmps14
    go_wp2
    go_ret2
    exact ⟨rfl, rfl⟩
end Go.Proofs.Ytcheceapcimbmaa
