/-
  What the program's ipv4.Encode computes, and its writer. Conditions: those of each case.
-/
import Derived.Test.YtoljmeemejmjfaaV4Dec
import Derived.Test.YtoljmeemejmjfaaFill
import Derived.Test.YtoljmeemejmjfaaCsLaw
namespace Go.Proofs.Ytoljmeemejmjfaa
open Go.RowKit

/-- Encode's own boxes while it works: the packet, and the writer behind it -/
def KW (n0 : Nat) (v0 v1 v2 v3 v4 v5 v6 : Value) (s : ByteArray) (bad : Bool) (w W : World) : Prop :=
  Below n0 w W ∧ Box7 W n0 v0 v1 v2 v3 v4 v5 v6 ∧ n0 + 1 < W.heap.size ∧ W.cell? ⟨n0 + 1, 0, none⟩ = some (.string s) ∧ W.cell? ⟨n0 + 1, 1, none⟩ = some (.bool bad) ∧ ∀ o, W.frozen? ⟨n0 + 1, o, none⟩ = false
section
variable {n0 : Nat} {v0 v1 v2 v3 v4 v5 v6 : Value} {s : ByteArray} {bad : Bool} {w W W' : World}
theorem KW.next (h : KW n0 v0 v1 v2 v3 v4 v5 v6 s bad w W) (g : Below W.heap.size W W') : KW n0 v0 v1 v2 v3 v4 v5 v6 s bad w W' := by
  obtain ⟨k1, k2, k3, k4, k5, k6⟩ := h
  exact ⟨k1.trans (g.mono (Nat.le_of_lt k2.1)), k2.below g, Nat.lt_of_lt_of_le k3 g.size, (g.cell k3).trans k4, (g.cell k3).trans k5, fun o => (g.frozen k3).trans (k6 o)⟩
theorem KW.drew (h : KW n0 v0 v1 v2 v3 v4 v5 v6 s bad w W) : KW n0 v0 v1 v2 v3 v4 v5 v6 s bad w W.drew := ⟨h.1.drew, h.2⟩
theorem KW.put (h : KW n0 v0 v1 v2 v3 v4 v5 v6 s bad w W) (t : ByteArray) (b : Bool) : KW n0 v0 v1 v2 v3 v4 v5 v6 t b w ((W.setCell ⟨n0 + 1, 0, none⟩ (.string t)).setCell ⟨n0 + 1, 1, none⟩ (.bool b)) := by
  obtain ⟨k1, k2, k3, k4, k5, k6⟩ := h
  refine ⟨(k1.setCell (Nat.le_succ _) _).setCell (Nat.le_succ _) _, (k2.put (by omega)).put (by omega), by simpa using k3, ?_, ?_, fun o => by rw [World.frozen?_setCell, World.frozen?_setCell]; exact k6 o⟩
  · exact (World.cell?_setCell_other _ _ _ _ (by intro e; cases e)).trans (World.cell?_setCell_same _ _ _ k4)
  · exact World.cell?_setCell_same _ _ _ ((World.cell?_setCell_other _ _ _ _ (by intro e; cases e)).trans k5)
theorem KW.out (h : KW n0 v0 v1 v2 v3 v4 v5 v6 s bad w W) : W.cell? ⟨n0 + 1, 0, none⟩ = some (.string s) ∧ W.cell? ⟨n0, 3, none⟩ = some v3 ∧ W.cell? ⟨n0, 4, none⟩ = some v4 ∧ W.cell? ⟨n0, 5, none⟩ = some v5 ∧ W.cell? ⟨n0, 6, none⟩ = some v6 ∧ KW n0 v0 v1 v2 v3 v4 v5 v6 s bad w W := by
  have hh := h
  obtain ⟨k1, ⟨z, c0, c1, c2, c3, c4, c5, c6, cf⟩, k3, k4, k5, k6⟩ := h
  exact ⟨k4, c3, c4, c5, c6, hh⟩
end
theorem KW.new (w : World) (v0 v1 v2 v3 v4 v5 v6 : Value) (t t2 : TypeId) : KW w.heap.size v0 v1 v2 v3 v4 v5 v6 ⟨#[]⟩ false w ((w.alloc (.cells #[v0, v1, v2, v3, v4, v5, v6] t)).alloc (.cells #[.string ⟨#[]⟩, .bool false] t2)) := by
  refine ⟨ball (bbox1 _ _) _, (Box7.new _ _ _ _ _ _ _ _ _).below (bbox1 _ _), by simp, ?_, ?_, ?_⟩
  all_goals first | (intro o; simp [go_sem]; done) | simp [go_sem]

set_option maxRecDepth 100000 in
set_option maxHeartbeats 1000000 in
theorem wput_any {n0 : Nat} {v0 v1 v2 v3 v4 v5 v6 : Value} {s v t : ByteArray} {bad b : Bool} {n m c : Int} {w W : World} (hP : Puts n m v c) (hc : (bad || (c != 0)) = b) (ht : s ++ v = t) (hz : s.size + v.size ≤ 9223372036854775807) (K : KW n0 v0 v1 v2 v3 v4 v5 v6 s bad w W) :
    Calls Try.prog 22 #[.pointer (some ⟨n0 + 1, 0, none⟩), .int .i64 n, .int .i64 m] W fun e W' => e = .returned (.tuple #[]) ∧ KW n0 v0 v1 v2 v3 v4 v5 v6 t b w W' := by
  have j := join2 s v hz
  rw [ht] at j
  clear ht hz
  obtain ⟨d, hd⟩ : ∃ d, d = (c != 0) := ⟨_, rfl⟩
  have hd2 := hd.symm
  rw [← hd] at hc
  clear hd
  subst hc
  rcases bad with _ | _ <;> rcases d with _ | _
  all_goals
    go_enter Try.func22, Try.ntmps22
    go_wp2_with ((with_reducible refine (hP.to _).mono ?_); rintro e w1 ⟨rfl, g1⟩; have K1 := K.next g1; have K2 := K1; obtain ⟨_, _, z1, s0, s1, sf⟩ := K2)
    go_end0
    exact ⟨rfl, K1.put _ _⟩

def Fills (p s : ByteArray) (a : Int) (v : ByteArray) (x : Int) : Prop :=
  ∀ w : World, Calls Try.prog 23 #[.string p, .string s, .int .i64 a] w fun e w' => e = .returned (.tuple #[.string v, .int .i64 x]) ∧ Below w.heap.size w w'
theorem Fills.to {p s : ByteArray} {a : Int} {v : ByteArray} {x : Int} (h : Fills p s a v x) (w : World) : Calls Try.prog 23 #[.string p, .string s, .int .i64 a] w fun e w' => e = .returned (.tuple #[.string v, .int .i64 x]) ∧ Below w.heap.size w w' := h w

/-- which packets may not be told apart from their sizes alone -/
def BadS (src dst opts data : ByteArray) : Prop := src.size ≠ 4 ∨ dst.size ≠ 4 ∨ 40 < opts.size ∨ opts.size % 4 ≠ 0 ∨ 65535 < (data.size : Int)

theorem and3 (n : Nat) (h : n ≤ 9223372036854775807) : bits BinOp.and IntKind.i64 (n : Int) 3 = ((n % 4 : Nat) : Int) := by
  rw [show (3 : Int) = ((3 : Nat) : Int) from rfl, i64_and_nat _ _ (by omega) (by omega)]
  congr 1
  exact Nat.and_two_pow_sub_one_eq_mod _ 2

set_option maxRecDepth 100000 in
set_option maxHeartbeats 2000000 in
theorem v4enc_form (id ttl pr : Int) (src dst opts data : ByteArray) (z1 : opts.size ≤ 140737488351232) (hb : BadS src dst opts data) (w : World) :
    Calls Try.prog 13 #[.agg #[.int .i64 id, .int .i64 ttl, .int .i64 pr, .string src, .string dst, .string opts, .string data]] w fun e w' => e = .returned (.tuple #[.string ⟨#[]⟩, .int .i64 1]) ∧ Below w.heap.size w w' := by
  have a3 := and3 opts.size (by omega)
  obtain ⟨r, er⟩ : ∃ r, r = opts.size % 4 := ⟨_, rfl⟩
  rw [← er] at a3
  have hc : ((src.size : Int) != 4) = true ∨ (((src.size : Int) != 4) = false ∧ ((dst.size : Int) != 4) = true) ∨ (((src.size : Int) != 4) = false ∧ ((dst.size : Int) != 4) = false ∧ decide (40 < (opts.size : Int)) = true) ∨
      (((src.size : Int) != 4) = false ∧ ((dst.size : Int) != 4) = false ∧ decide (40 < (opts.size : Int)) = false ∧ ((r : Int) != 0) = true) ∨
      (((src.size : Int) != 4) = false ∧ ((dst.size : Int) != 4) = false ∧ decide (40 < (opts.size : Int)) = false ∧ ((r : Int) != 0) = false ∧ decide (65535 < (data.size : Int)) = true) := by
    simp only [bne_iff_ne, bne_eq_false_iff_eq, decide_eq_true_eq, decide_eq_false_iff_not]
    unfold BadS at hb
    omega
  clear hb er z1
  rcases hc with d1 | ⟨d1, d2⟩ | ⟨d1, d2, d3⟩ | ⟨d1, d2, d3, d4⟩ | ⟨d1, d2, d3, d4, d5⟩
  all_goals
    go_enter Try.func13, Try.ntmps13
    go_wp2
    go_ret2
    exact ⟨rfl, bbox1 _ _⟩

theorem or64_16 : ∀ k : Nat, k < 16 → 64 ||| k = 64 + k := by decide
theorem or64 (q : Nat) (h : q < 16) : bits BinOp.or IntKind.i64 64 (q : Int) = 64 + (q : Int) := by
  have h1 := i64_or_nat 64 q (by decide) (Nat.lt_trans h (by decide))
  rw [or64_16 q h] at h1
  exact h1

set_option maxRecDepth 100000 in
set_option maxHeartbeats 4000000 in
theorem v4enc_bad (id ttl pr c3 c4 c6 c7 : Int) (src dst opts data x1 x2 x3 x4 x5 x6 x7 : ByteArray) (q : Nat) (b3 b4 b6 : Bool) (g1 : src.size = 4) (g2 : dst.size = 4) (g3 : opts.size ≤ 40) (g4 : opts.size % 4 = 0) (g5 : data.size ≤ 65535) (hq : q = (20 + opts.size) / 4)
    (h1 : Puts (64 + (q : Int)) 1 x1 0) (h2 : Puts 0 1 x2 0) (h3 : Puts (20 + (opts.size : Int) + (data.size : Int)) 2 x3 c3) (h4 : Puts id 2 x4 c4) (h5 : Puts 0 2 x5 0) (h6 : Puts ttl 1 x6 c6) (h7 : Puts pr 1 x7 c7)
    (n3 : (false || (c3 != 0)) = b3) (n4 : (b3 || (c4 != 0)) = b4) (n6 : (b4 || (c6 != 0)) = b6) (n7 : (b6 || (c7 != 0)) = true)
    (s1 : x1.size ≤ 4) (s2 : x2.size ≤ 4) (s3 : x3.size ≤ 4) (s4 : x4.size ≤ 4) (s5 : x5.size ≤ 4) (s6 : x6.size ≤ 4) (s7 : x7.size ≤ 4) (w : World) :
    Calls Try.prog 13 #[.agg #[.int .i64 id, .int .i64 ttl, .int .i64 pr, .string src, .string dst, .string opts, .string data]] w fun e w' => e = .returned (.tuple #[.string ⟨#[]⟩, .int .i64 1]) ∧ Below w.heap.size w w' := by
  have a3 := and3 opts.size (by omega)
  rw [g4] at a3
  have g5i : (data.size : Int) ≤ 65535 := Int.ofNat_le.2 g5
  have G5 := Lib.hid g5
  clear g5
  have q16 : q < 16 := by omega
  have d1 : ((src.size : Int) != 4) = false := by rw [bne_eq_false_iff_eq]; omega
  have d2 : ((dst.size : Int) != 4) = false := by rw [bne_eq_false_iff_eq]; omega
  have d3 : decide (40 < (opts.size : Int)) = false := decide_eq_false (by omega)
  have d5 : decide (65535 < (data.size : Int)) = false := decide_eq_false (by omega)
  have wr1 : IntKind.i64.wrap (20 + (opts.size : Int)) = 20 + (opts.size : Int) := IntWalk.i64_in _ ⟨by omega, by omega⟩
  have wr3 : IntKind.i64.wrap (20 + (opts.size : Int) + (data.size : Int)) = 20 + (opts.size : Int) + (data.size : Int) := IntWalk.i64_in _ ⟨by omega, by omega⟩
  have hdiv : (20 + (opts.size : Int)) / 4 = (q : Int) := by omega
  have htdiv : (20 + (opts.size : Int)).tdiv 4 = (q : Int) := by rw [Int.tdiv_eq_ediv_of_nonneg (by omega)]; exact hdiv
  have HD := Lib.hid (And.intro hdiv htdiv)
  clear hdiv htdiv
  have wq : wrap64 (q : Int) = (q : Int) := IntWalk.wrap64_in _ ⟨by omega, by omega⟩
  have hor := or64 q q16
  obtain ⟨y1, e1⟩ : ∃ y, (⟨#[]⟩ : ByteArray) ++ x1 = y := ⟨_, rfl⟩
  obtain ⟨y2, e2⟩ : ∃ y, y1 ++ x2 = y := ⟨_, rfl⟩
  obtain ⟨y3, e3⟩ : ∃ y, y2 ++ x3 = y := ⟨_, rfl⟩
  obtain ⟨y4, e4⟩ : ∃ y, y3 ++ x4 = y := ⟨_, rfl⟩
  obtain ⟨y5, e5⟩ : ∃ y, y4 ++ x5 = y := ⟨_, rfl⟩
  obtain ⟨y6, e6⟩ : ∃ y, y5 ++ x6 = y := ⟨_, rfl⟩
  obtain ⟨y7, e7⟩ : ∃ y, y6 ++ x7 = y := ⟨_, rfl⟩
  obtain ⟨y8, e8⟩ : ∃ y, y7 ++ x5 = y := ⟨_, rfl⟩
  have t1 : y1.size ≤ 4 := by rw [← e1, size_add]; show 0 + _ ≤ 4; omega
  have t2 : y2.size ≤ 8 := by rw [← e2, size_add]; omega
  have t3 : y3.size ≤ 12 := by rw [← e3, size_add]; omega
  have t4 : y4.size ≤ 16 := by rw [← e4, size_add]; omega
  have t5 : y5.size ≤ 20 := by rw [← e5, size_add]; omega
  have t6 : y6.size ≤ 24 := by rw [← e6, size_add]; omega
  have t7 : y7.size ≤ 28 := by rw [← e7, size_add]; omega
  have t8 : y8.size ≤ 32 := by rw [← e8, size_add]; omega
  have tz : (⟨#[]⟩ : ByteArray).size = 0 := rfl
  have A1 := Lib.hid (show ∀ W : World, KW w.heap.size (.int .i64 id) (.int .i64 ttl) (.int .i64 pr) (.string src) (.string dst) (.string opts) (.string data) ⟨#[]⟩ false w W → Calls Try.prog 22 #[.pointer (some ⟨w.heap.size + 1, 0, none⟩), .int .i64 (64 + (q : Int)), .int .i64 1] W fun e W' => e = .returned (.tuple #[]) ∧ KW w.heap.size (.int .i64 id) (.int .i64 ttl) (.int .i64 pr) (.string src) (.string dst) (.string opts) (.string data) y1 false w W' from fun W K => wput_any h1 rfl e1 (by omega) K)
  have A2 := Lib.hid (show ∀ W : World, KW w.heap.size (.int .i64 id) (.int .i64 ttl) (.int .i64 pr) (.string src) (.string dst) (.string opts) (.string data) y1 false w W → Calls Try.prog 22 #[.pointer (some ⟨w.heap.size + 1, 0, none⟩), .int .i64 0, .int .i64 1] W fun e W' => e = .returned (.tuple #[]) ∧ KW w.heap.size (.int .i64 id) (.int .i64 ttl) (.int .i64 pr) (.string src) (.string dst) (.string opts) (.string data) y2 false w W' from fun W K => wput_any h2 rfl e2 (by omega) K)
  have A3 := Lib.hid (show ∀ W : World, KW w.heap.size (.int .i64 id) (.int .i64 ttl) (.int .i64 pr) (.string src) (.string dst) (.string opts) (.string data) y2 false w W → Calls Try.prog 22 #[.pointer (some ⟨w.heap.size + 1, 0, none⟩), .int .i64 (20 + (opts.size : Int) + (data.size : Int)), .int .i64 2] W fun e W' => e = .returned (.tuple #[]) ∧ KW w.heap.size (.int .i64 id) (.int .i64 ttl) (.int .i64 pr) (.string src) (.string dst) (.string opts) (.string data) y3 b3 w W' from fun W K => wput_any h3 n3 e3 (by omega) K)
  have A4 := Lib.hid (show ∀ W : World, KW w.heap.size (.int .i64 id) (.int .i64 ttl) (.int .i64 pr) (.string src) (.string dst) (.string opts) (.string data) y3 b3 w W → Calls Try.prog 22 #[.pointer (some ⟨w.heap.size + 1, 0, none⟩), .int .i64 id, .int .i64 2] W fun e W' => e = .returned (.tuple #[]) ∧ KW w.heap.size (.int .i64 id) (.int .i64 ttl) (.int .i64 pr) (.string src) (.string dst) (.string opts) (.string data) y4 b4 w W' from fun W K => wput_any h4 n4 e4 (by omega) K)
  have A5 := Lib.hid (show ∀ W : World, KW w.heap.size (.int .i64 id) (.int .i64 ttl) (.int .i64 pr) (.string src) (.string dst) (.string opts) (.string data) y4 b4 w W → Calls Try.prog 22 #[.pointer (some ⟨w.heap.size + 1, 0, none⟩), .int .i64 0, .int .i64 2] W fun e W' => e = .returned (.tuple #[]) ∧ KW w.heap.size (.int .i64 id) (.int .i64 ttl) (.int .i64 pr) (.string src) (.string dst) (.string opts) (.string data) y5 b4 w W' from fun W K => wput_any h5 (Bool.or_false _) e5 (by omega) K)
  have A6 := Lib.hid (show ∀ W : World, KW w.heap.size (.int .i64 id) (.int .i64 ttl) (.int .i64 pr) (.string src) (.string dst) (.string opts) (.string data) y5 b4 w W → Calls Try.prog 22 #[.pointer (some ⟨w.heap.size + 1, 0, none⟩), .int .i64 ttl, .int .i64 1] W fun e W' => e = .returned (.tuple #[]) ∧ KW w.heap.size (.int .i64 id) (.int .i64 ttl) (.int .i64 pr) (.string src) (.string dst) (.string opts) (.string data) y6 b6 w W' from fun W K => wput_any h6 n6 e6 (by omega) K)
  have A7 := Lib.hid (show ∀ W : World, KW w.heap.size (.int .i64 id) (.int .i64 ttl) (.int .i64 pr) (.string src) (.string dst) (.string opts) (.string data) y6 b6 w W → Calls Try.prog 22 #[.pointer (some ⟨w.heap.size + 1, 0, none⟩), .int .i64 pr, .int .i64 1] W fun e W' => e = .returned (.tuple #[]) ∧ KW w.heap.size (.int .i64 id) (.int .i64 ttl) (.int .i64 pr) (.string src) (.string dst) (.string opts) (.string data) y7 true w W' from fun W K => wput_any h7 n7 e7 (by omega) K)
  have A8 := Lib.hid (show ∀ W : World, KW w.heap.size (.int .i64 id) (.int .i64 ttl) (.int .i64 pr) (.string src) (.string dst) (.string opts) (.string data) y7 true w W → Calls Try.prog 22 #[.pointer (some ⟨w.heap.size + 1, 0, none⟩), .int .i64 0, .int .i64 2] W fun e W' => e = .returned (.tuple #[]) ∧ KW w.heap.size (.int .i64 id) (.int .i64 ttl) (.int .i64 pr) (.string src) (.string dst) (.string opts) (.string data) y8 true w W' from fun W K => wput_any h5 (Bool.or_false _) e8 (by omega) K)
  obtain ⟨hdiv, htdiv⟩ := HD.out
  clear HD g1 g2 g3 g4 g5i G5 q16 hq h1 h2 h3 h4 h5 h6 h7 n3 n4 n6 n7 tz e1 e2 e3 e4 e5 e6 e7 e8 s1 s2 s3 s4 s5 s6 s7 t1 t2 t3 t4 t5 t6 t7 t8
  go_enter Try.func13, Try.ntmps13
  go_wp2_with (go_at_call 22; first
      | ((with_reducible refine (A1.out _ (KW.new w _ _ _ _ _ _ _ _ _)).mono ?_); rintro e w1 ⟨rfl, K1⟩; clear A1)
      | ((with_reducible refine (A2.out _ K1).mono ?_); rintro e w2 ⟨rfl, K2⟩; obtain ⟨-, -, -, -, -, -, -, p26, -⟩ := K2.2.1; clear K1; clear A2)
      | ((with_reducible refine (A3.out _ K2).mono ?_); rintro e w3 ⟨rfl, K3⟩; obtain ⟨-, p30, -, -, -, -, -, -, -⟩ := K3.2.1; clear p26; clear K2; clear A3)
      | ((with_reducible refine (A4.out _ K3).mono ?_); rintro e w4 ⟨rfl, K4⟩; clear p30; clear K3; clear A4)
      | ((with_reducible refine (A5.out _ K4).mono ?_); rintro e w5 ⟨rfl, K5⟩; obtain ⟨-, -, p51, -, -, -, -, -, -⟩ := K5.2.1; clear K4; clear A5)
      | ((with_reducible refine (A6.out _ K5).mono ?_); rintro e w6 ⟨rfl, K6⟩; obtain ⟨-, -, -, p62, -, -, -, -, -⟩ := K6.2.1; clear p51; clear K5; clear A6)
      | ((with_reducible refine (A7.out _ K6).mono ?_); rintro e w7 ⟨rfl, K7⟩; clear p62; clear K6; clear A7)
      | ((with_reducible refine (A8.out _ K7).mono ?_); rintro e w8 ⟨rfl, K8⟩; have q81 := K8.2.2.2.2.1; clear K7; clear A8))
  go_ret2
  exact ⟨rfl, K8.1⟩

attribute [local go_sem ↓] Go.wp_at_zero Go.wp_at_succ
set_option maxRecDepth 100000 in
set_option maxHeartbeats 4000000 in
theorem v4enc_in (id ttl pr c3 c4 c6 c7 : Int) (src dst opts data x1 x2 x3 x4 x5 x6 x7 u res : ByteArray) (q : Nat) (b3 b4 b6 : Bool) (g1 : src.size = 4) (g2 : dst.size = 4) (g3 : opts.size ≤ 40) (g4 : opts.size % 4 = 0) (g5 : data.size ≤ 65535) (hq : q = (20 + opts.size) / 4)
    (h1 : Puts (64 + (q : Int)) 1 x1 0) (h2 : Puts 0 1 x2 0) (h3 : Puts (20 + (opts.size : Int) + (data.size : Int)) 2 x3 c3) (h4 : Puts id 2 x4 c4) (h5 : Puts 0 2 x5 0) (h6 : Puts ttl 1 x6 c6) (h7 : Puts pr 1 x7 c7)
    (n3 : (false || (c3 != 0)) = b3) (n4 : (b3 || (c4 != 0)) = b4) (n6 : (b4 || (c6 != 0)) = b6) (n7 : (b6 || (c7 != 0)) = false)
    (s1 : x1.size ≤ 4) (s2 : x2.size ≤ 4) (s3 : x3.size ≤ 4) (s4 : x4.size ≤ 4) (s5 : x5.size ≤ 4) (s6 : x6.size ≤ 4) (s7 : x7.size ≤ 4)
    (hu : ⟨#[]⟩ ++ x1 ++ x2 ++ x3 ++ x4 ++ x5 ++ x6 ++ x7 ++ x5 ++ (src ++ dst) ++ opts = u) (hz : 20 ≤ u.size) (hres : Cs.filled ⟨#[]⟩ u 10 ++ data = res) (w : World) :
    Calls Try.prog 13 #[.agg #[.int .i64 id, .int .i64 ttl, .int .i64 pr, .string src, .string dst, .string opts, .string data]] w fun e w' => e = .returned (.tuple #[.string res, .int .i64 0]) ∧ Below w.heap.size w w' := by
  have a3 := and3 opts.size (by omega)
  rw [g4] at a3
  have g5i : (data.size : Int) ≤ 65535 := Int.ofNat_le.2 g5
  have G5 := Lib.hid g5
  clear g5
  have q16 : q < 16 := by omega
  have d1 : ((src.size : Int) != 4) = false := by rw [bne_eq_false_iff_eq]; omega
  have d2 : ((dst.size : Int) != 4) = false := by rw [bne_eq_false_iff_eq]; omega
  have d3 : decide (40 < (opts.size : Int)) = false := decide_eq_false (by omega)
  have d5 : decide (65535 < (data.size : Int)) = false := decide_eq_false (by omega)
  have wr1 : IntKind.i64.wrap (20 + (opts.size : Int)) = 20 + (opts.size : Int) := IntWalk.i64_in _ ⟨by omega, by omega⟩
  have wr3 : IntKind.i64.wrap (20 + (opts.size : Int) + (data.size : Int)) = 20 + (opts.size : Int) + (data.size : Int) := IntWalk.i64_in _ ⟨by omega, by omega⟩
  have hdiv : (20 + (opts.size : Int)) / 4 = (q : Int) := by omega
  have htdiv : (20 + (opts.size : Int)).tdiv 4 = (q : Int) := by rw [Int.tdiv_eq_ediv_of_nonneg (by omega)]; exact hdiv
  have HD := Lib.hid (And.intro hdiv htdiv)
  clear hdiv htdiv
  have wq : wrap64 (q : Int) = (q : Int) := IntWalk.wrap64_in _ ⟨by omega, by omega⟩
  have hor := or64 q q16
  obtain ⟨y1, e1⟩ : ∃ y, (⟨#[]⟩ : ByteArray) ++ x1 = y := ⟨_, rfl⟩
  obtain ⟨y2, e2⟩ : ∃ y, y1 ++ x2 = y := ⟨_, rfl⟩
  obtain ⟨y3, e3⟩ : ∃ y, y2 ++ x3 = y := ⟨_, rfl⟩
  obtain ⟨y4, e4⟩ : ∃ y, y3 ++ x4 = y := ⟨_, rfl⟩
  obtain ⟨y5, e5⟩ : ∃ y, y4 ++ x5 = y := ⟨_, rfl⟩
  obtain ⟨y6, e6⟩ : ∃ y, y5 ++ x6 = y := ⟨_, rfl⟩
  obtain ⟨y7, e7⟩ : ∃ y, y6 ++ x7 = y := ⟨_, rfl⟩
  obtain ⟨y8, e8⟩ : ∃ y, y7 ++ x5 = y := ⟨_, rfl⟩
  have t1 : y1.size ≤ 4 := by rw [← e1, size_add]; show 0 + _ ≤ 4; omega
  have t2 : y2.size ≤ 8 := by rw [← e2, size_add]; omega
  have t3 : y3.size ≤ 12 := by rw [← e3, size_add]; omega
  have t4 : y4.size ≤ 16 := by rw [← e4, size_add]; omega
  have t5 : y5.size ≤ 20 := by rw [← e5, size_add]; omega
  have t6 : y6.size ≤ 24 := by rw [← e6, size_add]; omega
  have t7 : y7.size ≤ 28 := by rw [← e7, size_add]; omega
  have t8 : y8.size ≤ 32 := by rw [← e8, size_add]; omega
  have tz : (⟨#[]⟩ : ByteArray).size = 0 := rfl
  have A1 := Lib.hid (show ∀ W : World, KW w.heap.size (.int .i64 id) (.int .i64 ttl) (.int .i64 pr) (.string src) (.string dst) (.string opts) (.string data) ⟨#[]⟩ false w W → Calls Try.prog 22 #[.pointer (some ⟨w.heap.size + 1, 0, none⟩), .int .i64 (64 + (q : Int)), .int .i64 1] W fun e W' => e = .returned (.tuple #[]) ∧ KW w.heap.size (.int .i64 id) (.int .i64 ttl) (.int .i64 pr) (.string src) (.string dst) (.string opts) (.string data) y1 false w W' from fun W K => wput_any h1 rfl e1 (by omega) K)
  have A2 := Lib.hid (show ∀ W : World, KW w.heap.size (.int .i64 id) (.int .i64 ttl) (.int .i64 pr) (.string src) (.string dst) (.string opts) (.string data) y1 false w W → Calls Try.prog 22 #[.pointer (some ⟨w.heap.size + 1, 0, none⟩), .int .i64 0, .int .i64 1] W fun e W' => e = .returned (.tuple #[]) ∧ KW w.heap.size (.int .i64 id) (.int .i64 ttl) (.int .i64 pr) (.string src) (.string dst) (.string opts) (.string data) y2 false w W' from fun W K => wput_any h2 rfl e2 (by omega) K)
  have A3 := Lib.hid (show ∀ W : World, KW w.heap.size (.int .i64 id) (.int .i64 ttl) (.int .i64 pr) (.string src) (.string dst) (.string opts) (.string data) y2 false w W → Calls Try.prog 22 #[.pointer (some ⟨w.heap.size + 1, 0, none⟩), .int .i64 (20 + (opts.size : Int) + (data.size : Int)), .int .i64 2] W fun e W' => e = .returned (.tuple #[]) ∧ KW w.heap.size (.int .i64 id) (.int .i64 ttl) (.int .i64 pr) (.string src) (.string dst) (.string opts) (.string data) y3 b3 w W' from fun W K => wput_any h3 n3 e3 (by omega) K)
  have A4 := Lib.hid (show ∀ W : World, KW w.heap.size (.int .i64 id) (.int .i64 ttl) (.int .i64 pr) (.string src) (.string dst) (.string opts) (.string data) y3 b3 w W → Calls Try.prog 22 #[.pointer (some ⟨w.heap.size + 1, 0, none⟩), .int .i64 id, .int .i64 2] W fun e W' => e = .returned (.tuple #[]) ∧ KW w.heap.size (.int .i64 id) (.int .i64 ttl) (.int .i64 pr) (.string src) (.string dst) (.string opts) (.string data) y4 b4 w W' from fun W K => wput_any h4 n4 e4 (by omega) K)
  have A5 := Lib.hid (show ∀ W : World, KW w.heap.size (.int .i64 id) (.int .i64 ttl) (.int .i64 pr) (.string src) (.string dst) (.string opts) (.string data) y4 b4 w W → Calls Try.prog 22 #[.pointer (some ⟨w.heap.size + 1, 0, none⟩), .int .i64 0, .int .i64 2] W fun e W' => e = .returned (.tuple #[]) ∧ KW w.heap.size (.int .i64 id) (.int .i64 ttl) (.int .i64 pr) (.string src) (.string dst) (.string opts) (.string data) y5 b4 w W' from fun W K => wput_any h5 (Bool.or_false _) e5 (by omega) K)
  have A6 := Lib.hid (show ∀ W : World, KW w.heap.size (.int .i64 id) (.int .i64 ttl) (.int .i64 pr) (.string src) (.string dst) (.string opts) (.string data) y5 b4 w W → Calls Try.prog 22 #[.pointer (some ⟨w.heap.size + 1, 0, none⟩), .int .i64 ttl, .int .i64 1] W fun e W' => e = .returned (.tuple #[]) ∧ KW w.heap.size (.int .i64 id) (.int .i64 ttl) (.int .i64 pr) (.string src) (.string dst) (.string opts) (.string data) y6 b6 w W' from fun W K => wput_any h6 n6 e6 (by omega) K)
  have A7 := Lib.hid (show ∀ W : World, KW w.heap.size (.int .i64 id) (.int .i64 ttl) (.int .i64 pr) (.string src) (.string dst) (.string opts) (.string data) y6 b6 w W → Calls Try.prog 22 #[.pointer (some ⟨w.heap.size + 1, 0, none⟩), .int .i64 pr, .int .i64 1] W fun e W' => e = .returned (.tuple #[]) ∧ KW w.heap.size (.int .i64 id) (.int .i64 ttl) (.int .i64 pr) (.string src) (.string dst) (.string opts) (.string data) y7 false w W' from fun W K => wput_any h7 n7 e7 (by omega) K)
  have A8 := Lib.hid (show ∀ W : World, KW w.heap.size (.int .i64 id) (.int .i64 ttl) (.int .i64 pr) (.string src) (.string dst) (.string opts) (.string data) y7 false w W → Calls Try.prog 22 #[.pointer (some ⟨w.heap.size + 1, 0, none⟩), .int .i64 0, .int .i64 2] W fun e W' => e = .returned (.tuple #[]) ∧ KW w.heap.size (.int .i64 id) (.int .i64 ttl) (.int .i64 pr) (.string src) (.string dst) (.string opts) (.string data) y8 false w W' from fun W K => wput_any h5 (Bool.or_false _) e8 (by omega) K)
  rw [e1, e2, e3, e4, e5, e6, e7, e8] at hu
  obtain ⟨y9, e9⟩ : ∃ y, src ++ dst = y := ⟨_, rfl⟩
  obtain ⟨y10, e10⟩ : ∃ y, y8 ++ y9 = y := ⟨_, rfl⟩
  have t9 : y9.size = 8 := by rw [← e9, size_add]; omega
  have t10 : y10.size ≤ 40 := by rw [← e10, size_add]; omega
  have t11 : u.size ≤ 80 := by rw [← hu, e9, e10, size_add]; exact Nat.add_le_add t10 g3
  have j9 := join2 src dst (by omega)
  have j10 := join2 y8 y9 (by omega)
  have j11 := join2 y10 opts (Nat.le_trans (Nat.add_le_add t10 g3) (by decide))
  rw [e9, e10] at hu
  rw [e9] at j9
  rw [e10] at j10
  rw [hu] at j11
  obtain ⟨f, ef⟩ : ∃ f, Cs.filled ⟨#[]⟩ u 10 = f := ⟨_, rfl⟩
  have tf : f.size = u.size := by rw [← ef]; exact Cs.filled_size _ _ _ (by omega)
  have hF : Fills ⟨#[]⟩ u 10 f 0 := fun w => by rw [← ef]; exact fill_ok ⟨#[]⟩ u 10 (by decide) (by omega) (by omega) (by decide) (by decide) w
  have j12 := join2 f data (Nat.le_trans (Nat.add_le_add (Nat.le_trans (Nat.le_of_eq tf) t11) G5.out) (by decide))
  rw [ef] at hres
  rw [hres] at j12
  obtain ⟨hdiv, htdiv⟩ := HD.out
  clear HD g1 g2 g3 g4 g5i G5 q16 hq h1 h2 h3 h4 h5 h6 h7 n3 n4 n6 n7 tz e1 e2 e3 e4 e5 e6 e7 e8 s1 s2 s3 s4 s5 s6 s7 t1 t2 t3 t4 t5 t6 t7 t8 t9 t10 t11 tf hz hu ef e9 e10
  go_enter Try.func13, Try.ntmps13
  go_wp2_with (go_at_call 22; first
      | ((with_reducible refine (A1.out _ (KW.new w _ _ _ _ _ _ _ _ _)).mono ?_); rintro e w1 ⟨rfl, K1⟩; clear A1)
      | ((with_reducible refine (A2.out _ K1).mono ?_); rintro e w2 ⟨rfl, K2⟩; obtain ⟨-, -, -, -, -, -, -, p26, -⟩ := K2.2.1; clear K1; clear A2)
      | ((with_reducible refine (A3.out _ K2).mono ?_); rintro e w3 ⟨rfl, K3⟩; obtain ⟨-, p30, -, -, -, -, -, -, -⟩ := K3.2.1; clear p26; clear K2; clear A3)
      | ((with_reducible refine (A4.out _ K3).mono ?_); rintro e w4 ⟨rfl, K4⟩; clear p30; clear K3; clear A4)
      | ((with_reducible refine (A5.out _ K4).mono ?_); rintro e w5 ⟨rfl, K5⟩; obtain ⟨-, -, p51, -, -, -, -, -, -⟩ := K5.2.1; clear K4; clear A5)
      | ((with_reducible refine (A6.out _ K5).mono ?_); rintro e w6 ⟨rfl, K6⟩; obtain ⟨-, -, -, p62, -, -, -, -, -⟩ := K6.2.1; clear p51; clear K5; clear A6)
      | ((with_reducible refine (A7.out _ K6).mono ?_); rintro e w7 ⟨rfl, K7⟩; clear p62; clear K6; clear A7)
      | ((with_reducible refine (A8.out _ K7).mono ?_); rintro e w8 ⟨rfl, K8⟩; have q81 := K8.2.2.2.2.1; clear K7; clear A8))
  clear q81
  go_region_held3 (fun w' => w'.cell? ⟨w.heap.size + 1, 0, none⟩ = some (.string y8) ∧ w'.cell? ⟨w.heap.size, 3, none⟩ = some (.string src) ∧ w'.cell? ⟨w.heap.size, 4, none⟩ = some (.string dst) ∧ w'.cell? ⟨w.heap.size, 5, none⟩ = some (.string opts) ∧ w'.cell? ⟨w.heap.size, 6, none⟩ = some (.string data) ∧ KW w.heap.size (.int .i64 id) (.int .i64 ttl) (.int .i64 pr) (.string src) (.string dst) (.string opts) (.string data) y8 false w w')
    (first | (exact K8.drew.out) | (go_split_ands; exact (KW.next (by assumption) (by assumption)).out))
    (first | ((with_reducible refine (hF.to _).mono ?_); rintro e w9 ⟨rfl, g9⟩))
  have K9 : KW w.heap.size (.int .i64 id) (.int .i64 ttl) (.int .i64 pr) (.string src) (.string dst) (.string opts) (.string data) y8 false w w9 := by first | assumption | (go_split_ands; assumption) | go_split_ands
  have K9b := K9.1
  go_wp2
  go_ret2
  exact ⟨rfl, K9b⟩
end Go.Proofs.Ytoljmeemejmjfaa
