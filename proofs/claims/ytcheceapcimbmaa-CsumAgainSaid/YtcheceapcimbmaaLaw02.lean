/-
  The walks of the statements of layer 2, the plainer ones: each returns true and leaves what was there alone. Conditions: the texts' lengths lie within the form's own reach, the numbers are of their kind.
-/
import Derived.Test.YtcheceapcimbmaaFill
import Derived.Test.YtcheceapcimbmaaRFill
import Derived.Test.YtcheceapcimbmaaPseudo
import Derived.Test.YtcheceapcimbmaaRPseudo
import Derived.Test.YtcheceapcimbmaaCsLaw
namespace Go.Proofs.Ytcheceapcimbmaa
open Go.RowKit

/-- contracts as facts that the walk does not look into -/
def Sums (s : ByteArray) (n : Int) : Prop :=
  ∀ w : World, Calls Try.prog 10 #[.string s] w fun e w' => e = .returned (.int .i64 n) ∧ Below w.heap.size w w'
theorem Sums.to {s : ByteArray} {n : Int} (h : Sums s n) (w : World) : Calls Try.prog 10 #[.string s] w fun e w' => e = .returned (.int .i64 n) ∧ Below w.heap.size w w' := h w
def Rights (s : ByteArray) (b : Bool) : Prop :=
  ∀ w : World, Calls Try.prog 11 #[.string s] w fun e w' => e = .returned (.bool b) ∧ Below w.heap.size w w'
theorem Rights.to {s : ByteArray} {b : Bool} (h : Rights s b) (w : World) : Calls Try.prog 11 #[.string s] w fun e w' => e = .returned (.bool b) ∧ Below w.heap.size w w' := h w
def Pseudos (a b : ByteArray) (n p : Int) (v : ByteArray) (c : Int) : Prop :=
  ∀ w : World, Calls Try.prog 13 #[.string a, .string b, .int .i64 n, .int .i64 p] w fun e w' => e = .returned (.tuple #[.string v, .int .i64 c]) ∧ Below w.heap.size w w'
theorem Pseudos.to {a b : ByteArray} {n p : Int} {v : ByteArray} {c : Int} (h : Pseudos a b n p v c) (w : World) : Calls Try.prog 13 #[.string a, .string b, .int .i64 n, .int .i64 p] w fun e w' => e = .returned (.tuple #[.string v, .int .i64 c]) ∧ Below w.heap.size w w' := h w
def RPseudos (a b : ByteArray) (n p : Int) (v : ByteArray) (c : Int) : Prop :=
  ∀ w : World, Calls Try.prog 14 #[.string a, .string b, .int .i64 n, .int .i64 p] w fun e w' => e = .returned (.tuple #[.string v, .int .i64 c]) ∧ Below w.heap.size w w'
theorem RPseudos.to {a b : ByteArray} {n p : Int} {v : ByteArray} {c : Int} (h : RPseudos a b n p v c) (w : World) : Calls Try.prog 14 #[.string a, .string b, .int .i64 n, .int .i64 p] w fun e w' => e = .returned (.tuple #[.string v, .int .i64 c]) ∧ Below w.heap.size w w' := h w
def Fills (a b : ByteArray) (n : Int) (v : ByteArray) (c : Int) : Prop :=
  ∀ w : World, Calls Try.prog 15 #[.string a, .string b, .int .i64 n] w fun e w' => e = .returned (.tuple #[.string v, .int .i64 c]) ∧ Below w.heap.size w w'
theorem Fills.to {a b : ByteArray} {n : Int} {v : ByteArray} {c : Int} (h : Fills a b n v c) (w : World) : Calls Try.prog 15 #[.string a, .string b, .int .i64 n] w fun e w' => e = .returned (.tuple #[.string v, .int .i64 c]) ∧ Below w.heap.size w w' := h w
def RFills (a b : ByteArray) (n : Int) (v : ByteArray) (c : Int) : Prop :=
  ∀ w : World, Calls Try.prog 16 #[.string a, .string b, .int .i64 n] w fun e w' => e = .returned (.tuple #[.string v, .int .i64 c]) ∧ Below w.heap.size w w'
theorem RFills.to {a b : ByteArray} {n : Int} {v : ByteArray} {c : Int} (h : RFills a b n v c) (w : World) : Calls Try.prog 16 #[.string a, .string b, .int .i64 n] w fun e w' => e = .returned (.tuple #[.string v, .int .i64 c]) ∧ Below w.heap.size w w' := h w

theorem still {P : Program} {f : FuncId} {args : Array Value} {w : World} {v : Value} (h : Calls P f args w fun e w' => e = .returned v ∧ w = w') : Calls P f args w fun e w' => e = .returned v ∧ Below w.heap.size w w' :=
  h.mono fun _ _ ⟨h1, h2⟩ => ⟨h1, h2 ▸ Below.refl _ _⟩

theorem live_pseudo : Pseudos ⟨#[97, 98, 99, 100]⟩ ⟨#[97, 98, 99]⟩ 0 0 ⟨#[]⟩ 1 := fun w => pseudo_arg _ _ 0 0 (by decide) (by decide) (by decide) (by decide) (by decide) w
theorem live_fill : Fills ⟨#[]⟩ ⟨#[97, 98, 99]⟩ 1 ⟨#[]⟩ 1 := fun w => still (fill_arg _ _ 1 (by decide) (by decide) (by decide) w)
theorem live_sum : Sums ⟨#[0, 1, 242, 3, 244, 245, 246, 247]⟩ 8717 := fun w => by
  have h := sum_any ⟨#[0, 1, 242, 3, 244, 245, 246, 247]⟩ (by decide) w
  rw [show Cs.sum (⟨#[0, 1, 242, 3, 244, 245, 246, 247]⟩ : ByteArray).data.toList = 8717 from by decide] at h
  exact h
theorem live_sum0 : Sums ⟨#[]⟩ 65535 := fun w => by
  have h := sum_any ⟨#[]⟩ (by decide) w
  rw [show Cs.sum (⟨#[]⟩ : ByteArray).data.toList = 65535 from by decide] at h
  exact h
theorem live_right : Rights ⟨#[255, 255]⟩ true := fun w => by
  have h := right_any ⟨#[255, 255]⟩ (by decide) w
  rw [show Cs.sum (⟨#[255, 255]⟩ : ByteArray).data.toList = 0 from by decide] at h
  exact h

set_option maxHeartbeats 1000000 in
theorem live_any (w : World) : Calls Try.prog 12 #[] w fun e w' => e = .returned (.bool true) ∧ Below w.heap.size w w' := by
  go_enter Try.func12, Try.ntmps12
  go_wp2_with (first | ((with_reducible refine (live_pseudo.to _).mono ?_); rintro e w1 ⟨rfl, h1⟩) | ((with_reducible refine (live_fill.to _).mono ?_); rintro e w2 ⟨rfl, h2⟩) | ((with_reducible refine (live_sum.to _).mono ?_); rintro e w3 ⟨rfl, h3⟩) | ((with_reducible refine (live_sum0.to _).mono ?_); rintro e w4 ⟨rfl, h4⟩) | ((with_reducible refine (live_right.to _).mono ?_); rintro e w5 ⟨rfl, h5⟩))
  go_ret
  exact ⟨rfl, bstep (bstep (bstep (bstep h1 h2) h3) h4) h5⟩

set_option maxHeartbeats 1000000 in
theorem csumSums_walk (s : ByteArray) (hs : s.size ≤ 140737488351232) (w : World) :
    Calls Try.prog 3 #[.string s] w fun e w' => e = .returned (.bool true) ∧ Below w.heap.size w w' := by
  have h8 : s.size ≤ 281474976710656 := by omega
  go_enter Try.func3, Try.ntmps3
  go_wp2_with (first | ((with_reducible refine (rsum_any s h8 _).mono ?_); rintro e w1 ⟨rfl, rfl⟩) | ((with_reducible refine (sum_any s h8 _).mono ?_); rintro e w2 ⟨rfl, h2⟩) | ((with_reducible refine (right_any s h8 _).mono ?_); rintro e w3 ⟨rfl, h3⟩) | ((with_reducible refine (live_any _).mono ?_); rintro e w4 ⟨rfl, h4⟩))
  go_ret
  exact ⟨rfl, bstep (bstep h2 h3) h4⟩

theorem pseudo_both (a b : ByteArray) (n p : Int) (ha : a.size ≤ 140737488351232) (hb : b.size ≤ 140737488351232) (hn : n ≤ 9223372036854775807) (hp : p ≤ 9223372036854775807) : ∃ v c, Pseudos a b n p v c ∧ RPseudos a b n p v c := by
  by_cases h : p < 0 ∨ 255 < p ∨ n < 0 ∨ 65535 < n ∨ a.size ≠ b.size ∨ (a.size ≠ 4 ∧ a.size ≠ 16)
  · exact ⟨_, _, fun w => pseudo_arg a b n p ha hb hn hp h w, fun w => still (rpseudo_arg a b n p h w)⟩
  · obtain ⟨x, rfl⟩ := Int.eq_ofNat_of_zero_le (show 0 ≤ p by omega)
    obtain ⟨y, rfl⟩ := Int.eq_ofNat_of_zero_le (show 0 ≤ n by omega)
    by_cases h4 : a.size = 4
    · exact ⟨_, _, fun w => pseudo_4 a b y x h4 (by omega) (by omega) (by omega) w, fun w => rpseudo_4 a b y x h4 (by omega) (by omega) (by omega) w⟩
    · exact ⟨_, _, fun w => pseudo_16 a b y x (by omega) (by omega) (by omega) (by omega) w, fun w => rpseudo_16 a b y x (by omega) (by omega) (by omega) (by omega) w⟩

set_option maxHeartbeats 1000000 in
theorem csumPseudo_walk (a b : ByteArray) (n p : Int) (ha : a.size ≤ 140737488351232) (hb : b.size ≤ 140737488351232) (hn : n ≤ 9223372036854775807) (hp : p ≤ 9223372036854775807) (w : World) :
    Calls Try.prog 4 #[.agg #[.string a, .string b, .int .i64 n, .int .i64 p]] w fun e w' => e = .returned (.bool true) ∧ Below w.heap.size w w' := by
  obtain ⟨v, c, hA, hB⟩ := pseudo_both a b n p ha hb hn hp
  go_enter Try.func4, Try.ntmps4
  go_wp2_with (first | ((with_reducible refine (hA.to _).mono ?_); rintro e w1 ⟨rfl, h1⟩; obtain ⟨bc, bf⟩ := bcell h1) | ((with_reducible refine (hB.to _).mono ?_); rintro e w2 ⟨rfl, h2⟩) | ((with_reducible refine (live_any _).mono ?_); rintro e w4 ⟨rfl, h4⟩))
  go_ret
  exact ⟨rfl, bstep (bstep (bstep (bbox1 _ _) h1) h2) h4⟩

theorem fill_both (p s : ByteArray) (a : Int) (hp : p.size ≤ 140737488351232) (hs : s.size ≤ 140737488351232) :
    (Fills p s a ⟨#[]⟩ 1 ∧ RFills p s a ⟨#[]⟩ 1) ∨ (∃ n : Nat, a = n ∧ n + 2 ≤ s.size ∧ n % 2 = 0 ∧ p.size % 2 = 0 ∧ Fills p s a (Cs.filled p s n) 0 ∧ RFills p s a (Cs.filled p s n) 0) := by
  by_cases h : a < 0 ∨ (s.size : Int) - 2 < a ∨ a % 2 = 1 ∨ p.size % 2 = 1
  · exact .inl ⟨fun w => still (fill_arg p s a hp hs h w), fun w => still (rfill_arg p s a hp hs h w)⟩
  · obtain ⟨n, rfl⟩ := Int.eq_ofNat_of_zero_le (show 0 ≤ a by omega)
    exact .inr ⟨n, rfl, by omega, by omega, by omega, fun w => fill_ok p s n hp hs (by omega) (by omega) (by omega) w, fun w => rfill_ok p s n hp hs (by omega) (by omega) (by omega) w⟩

set_option maxHeartbeats 1000000 in
theorem csumFills_walk (p s : ByteArray) (a : Int) (hp : p.size ≤ 140737488351232) (hs : s.size ≤ 140737488351232) (w : World) :
    Calls Try.prog 5 #[.string p, .string s, .int .i64 a] w fun e w' => e = .returned (.bool true) ∧ Below w.heap.size w w' := by
  rcases fill_both p s a hp hs with ⟨hF, hR⟩ | ⟨n, rfl, hn, h2, hp2, hF, hR⟩
  · go_enter Try.func5, Try.ntmps5
    go_wp2_with (first | ((with_reducible refine (hF.to _).mono ?_); rintro e w1 ⟨rfl, h1⟩) | ((with_reducible refine (hR.to _).mono ?_); rintro e w2 ⟨rfl, h2⟩) | ((with_reducible refine (live_any _).mono ?_); rintro e w4 ⟨rfl, h4⟩))
    go_ret
    exact ⟨rfl, bstep (bstep h1 h2) h4⟩
  · have hq := Cs.filled_right p s n hp2 h2 hn
    have hz := Cs.filled_size p s n hn
    obtain ⟨v, hv⟩ : ∃ v, v = Cs.filled p s n := ⟨_, rfl⟩
    rw [← hv] at hq hz hF hR
    have hg : Rights (p ++ v) true := fun w => by
      have h := right_any (p ++ v) (by rw [size_add]; omega) w
      rw [hq] at h
      exact h
    have hz2 : v.size ≤ 140737488351232 := by omega
    clear hv hq hz h2 hp2
    go_enter Try.func5, Try.ntmps5
    go_wp2_with (first | ((with_reducible refine (hF.to _).mono ?_); rintro e w1 ⟨rfl, h1⟩) | ((with_reducible refine (hR.to _).mono ?_); rintro e w2 ⟨rfl, h2⟩) | ((with_reducible refine (hg.to _).mono ?_); rintro e w3 ⟨rfl, h3⟩) | ((with_reducible refine (live_any _).mono ?_); rintro e w4 ⟨rfl, h4⟩))
    go_ret
    exact ⟨rfl, bstep (bstep (bstep h1 h2) h3) h4⟩

set_option maxHeartbeats 1000000 in
theorem csumAgain_walk (p s : ByteArray) (a : Int) (hp : p.size ≤ 140737488351232) (hs : s.size ≤ 140737488351232) (w : World) :
    Calls Try.prog 8 #[.string p, .string s, .int .i64 a] w fun e w' => e = .returned (.bool true) ∧ Below w.heap.size w w' := by
  rcases fill_both p s a hp hs with ⟨hF, hR⟩ | ⟨n, rfl, hn, h2, hp2, hF, hR⟩
  · go_enter Try.func8, Try.ntmps8
    go_wp2_with (first | ((with_reducible refine (hF.to _).mono ?_); rintro e w1 ⟨rfl, h1⟩) | ((with_reducible refine (live_any _).mono ?_); rintro e w4 ⟨rfl, h4⟩))
    go_ret
    exact ⟨rfl, bstep h1 h4⟩
  · have hq := Cs.filled_again p s n hn
    have hz := Cs.filled_size p s n hn
    obtain ⟨v, hv⟩ : ∃ v, v = Cs.filled p s n := ⟨_, rfl⟩
    rw [← hv] at hq hz hF
    have hg : Fills p v n v 0 := fun w => by
      have h := fill_ok p v n hp (by omega) (by omega) h2 hp2 w
      rw [hq] at h
      exact h
    clear hv hq h2 hp2
    go_enter Try.func8, Try.ntmps8
    go_wp2_with (first | ((with_reducible refine (hF.to _).mono ?_); rintro e w1 ⟨rfl, h1⟩) | ((with_reducible refine (hg.to _).mono ?_); rintro e w3 ⟨rfl, h3⟩) | ((with_reducible refine (live_any _).mono ?_); rintro e w4 ⟨rfl, h4⟩))
    go_ret
    exact ⟨rfl, bstep (bstep h1 h3) h4⟩
end Go.Proofs.Ytcheceapcimbmaa
