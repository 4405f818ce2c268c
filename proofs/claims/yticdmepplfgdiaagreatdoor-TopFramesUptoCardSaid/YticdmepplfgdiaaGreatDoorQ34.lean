/-
  What the program's ipv4.Encode computes, and its writer. Conditions: those of each case. IPv4 packets in bytes, and what Decode, Encode and Alert answer on them, as facts for the laws' walks. Conditions: those of each.
-/
import Derived.Test.YticdmepplfgdiaaGreatDoorQ31
import Derived.Test.YticdmepplfgdiaaGreatDoorQ16
import Derived.Test.YticdmepplfgdiaaGreatDoorQ00
set_option linter.unusedVariables false
set_option linter.unusedSimpArgs false
section
namespace Go.Proofs.YticdmepplfgdiaaGreatDoor
open Go.RowKit
/-- Encode's own boxes while it works: the packet, and the writer behind it -/
def KW (n0 : Nat) (v0 v1 v2 v3 v4 v5 v6 : Value) (s : ByteArray) (bad : Bool) (w W : World) : Prop :=
  Below n0 w W ∧ Box7 W n0 v0 v1 v2 v3 v4 v5 v6 ∧ n0 + 1 < W.heap.size ∧ W.cell? ⟨n0 + 1, 0, none⟩ = some (.string s) ∧ W.cell? ⟨n0 + 1, 1, none⟩ = some (.bool bad) ∧ ∀ o, W.frozen? ⟨n0 + 1, o, none⟩ = false
section
variable {n0 : Nat} {v0 v1 v2 v3 v4 v5 v6 : Value} {s : ByteArray} {bad : Bool} {w W W' : World}
theorem KW.next (h : KW n0 v0 v1 v2 v3 v4 v5 v6 s bad w W) (g : Below W.heap.size W W') : KW n0 v0 v1 v2 v3 v4 v5 v6 s bad w W' := by
  obtain ⟨k1, k2, k3, k4, k5, k6⟩ := h
  exact ⟨k1.trans (g.mono (Nat.le_of_lt k2.1)), k2.below g, Nat.lt_of_lt_of_le k3 g.size, (g.cell k3).trans k4, (g.cell k3).trans k5, fun o => (g.frozen k3).trans (k6 o)⟩
theorem KW.drew (h : KW n0 v0 v1 v2 v3 v4 v5 v6 s bad w W) : KW n0 v0 v1 v2 v3 v4 v5 v6 s bad w W.drew := ⟨h.1.drew, h.2⟩
theorem KW.put (h : KW n0 v0 v1 v2 v3 v4 v5 v6 s bad w W) (t : ByteArray) (b : Bool) : KW n0 v0 v1 v2 v3 v4 v5 v6 t b w ((W.setCell ⟨n0 + 1, 0, none⟩ (.string t)).setCell ⟨n0 + 1, 1, none⟩ (.bool b)) := by
  obtain ⟨k1, k2, k3, k4, k5, k6⟩ := h
  refine ⟨(k1.setCell (Nat.le_succ _) _).setCell (Nat.le_succ _) _, (k2.put (by omega)).put (by omega), by simpa using k3, ?_, ?_, fun o => by rw [World.frozen?_setCell, World.frozen?_setCell]; exact k6 o⟩
  · exact (World.cell?_setCell_other _ _ _ _ (by intro e; cases e)).trans (World.cell?_setCell_same _ _ _ k4)
  · exact World.cell?_setCell_same _ _ _ ((World.cell?_setCell_other _ _ _ _ (by intro e; cases e)).trans k5)
theorem KW.out (h : KW n0 v0 v1 v2 v3 v4 v5 v6 s bad w W) : W.cell? ⟨n0 + 1, 0, none⟩ = some (.string s) ∧ W.cell? ⟨n0, 3, none⟩ = some v3 ∧ W.cell? ⟨n0, 4, none⟩ = some v4 ∧ W.cell? ⟨n0, 5, none⟩ = some v5 ∧ W.cell? ⟨n0, 6, none⟩ = some v6 ∧ KW n0 v0 v1 v2 v3 v4 v5 v6 s bad w W := by
  have hh := h
  obtain ⟨k1, ⟨z, c0, c1, c2, c3, c4, c5, c6, cf⟩, k3, k4, k5, k6⟩ := h
  exact ⟨k4, c3, c4, c5, c6, hh⟩
end
theorem KW.new (w : World) (v0 v1 v2 v3 v4 v5 v6 : Value) (t t2 : TypeId) : KW w.heap.size v0 v1 v2 v3 v4 v5 v6 ⟨#[]⟩ false w ((w.alloc (.cells #[v0, v1, v2, v3, v4, v5, v6] t)).alloc (.cells #[.string ⟨#[]⟩, .bool false] t2)) := by
  refine ⟨ball (bbox1 _ _) _, (Box7.new _ _ _ _ _ _ _ _ _).below (bbox1 _ _), by simp, ?_, ?_, ?_⟩
  all_goals first | (intro o; simp [go_sem]; done) | simp [go_sem]
set_option maxRecDepth 100000 in
set_option maxHeartbeats 1000000 in
theorem wput_any4 {n0 : Nat} {v0 v1 v2 v3 v4 v5 v6 : Value} {s v t : ByteArray} {bad b : Bool} {n m c : Int} {w W : World} (hP : Puts n m v c) (hc : (bad || (c != 0)) = b) (ht : s ++ v = t) (hz : s.size + v.size ≤ 9223372036854775807) (K : KW n0 v0 v1 v2 v3 v4 v5 v6 s bad w W) :
    Calls Tryz.prog 66 #[.pointer (some ⟨n0 + 1, 0, none⟩), .int .i64 n, .int .i64 m] W fun e W' => e = .returned (.tuple #[]) ∧ KW n0 v0 v1 v2 v3 v4 v5 v6 t b w W' := by
  have j := join2 s v hz
  rw [ht] at j
  clear ht hz
  obtain ⟨d, hd⟩ : ∃ d, d = (c != 0) := ⟨_, rfl⟩
  have hd2 := hd.symm
  rw [← hd] at hc
  clear hd
  subst hc
  rcases bad with _ | _ <;> rcases d with _ | _
  all_goals
    go_enter Tryz.func66, Tryz.ntmps66
    go_wp2_with ((with_reducible refine (hP.to _).mono ?_); rintro e w1 ⟨rfl, g1⟩; have K1 := K.next g1; have K2 := K1; obtain ⟨_, _, z1, s0, s1, sf⟩ := K2)
    go_end0
    exact ⟨rfl, K1.put _ _⟩
def Fills (p s : ByteArray) (a : Int) (v : ByteArray) (x : Int) : Prop :=
  ∀ w : World, Calls Tryz.prog 64 #[.string p, .string s, .int .i64 a] w fun e w' => e = .returned (.tuple #[.string v, .int .i64 x]) ∧ Below w.heap.size w w'
theorem Fills.to {p s : ByteArray} {a : Int} {v : ByteArray} {x : Int} (h : Fills p s a v x) (w : World) : Calls Tryz.prog 64 #[.string p, .string s, .int .i64 a] w fun e w' => e = .returned (.tuple #[.string v, .int .i64 x]) ∧ Below w.heap.size w w' := h w
/-- which packets may not be told apart from their sizes alone -/
def BadS (src dst opts data : ByteArray) : Prop := src.size ≠ 4 ∨ dst.size ≠ 4 ∨ 40 < opts.size ∨ opts.size % 4 ≠ 0 ∨ 65535 < (data.size : Int)
theorem and3v (n : Nat) (h : n ≤ 9223372036854775807) : bits BinOp.and IntKind.i64 (n : Int) 3 = ((n % 4 : Nat) : Int) := by
  rw [show (3 : Int) = ((3 : Nat) : Int) from rfl, i64_and_nat _ _ (by omega) (by omega)]
  congr 1
  exact Nat.and_two_pow_sub_one_eq_mod _ 2
set_option maxRecDepth 100000 in
set_option maxHeartbeats 2000000 in
theorem v4enc_form (id ttl pr : Int) (src dst opts data : ByteArray) (z1 : opts.size ≤ 140737488351232) (hb : BadS src dst opts data) (w : World) :
    Calls Tryz.prog 14 #[.agg #[.int .i64 id, .int .i64 ttl, .int .i64 pr, .string src, .string dst, .string opts, .string data]] w fun e w' => e = .returned (.tuple #[.string ⟨#[]⟩, .int .i64 1]) ∧ Below w.heap.size w w' := by
  have a3 := and3v opts.size (by omega)
  obtain ⟨r, er⟩ : ∃ r, r = opts.size % 4 := ⟨_, rfl⟩
  rw [← er] at a3
  have hc : ((src.size : Int) != 4) = true ∨ (((src.size : Int) != 4) = false ∧ ((dst.size : Int) != 4) = true) ∨ (((src.size : Int) != 4) = false ∧ ((dst.size : Int) != 4) = false ∧ decide (40 < (opts.size : Int)) = true) ∨
      (((src.size : Int) != 4) = false ∧ ((dst.size : Int) != 4) = false ∧ decide (40 < (opts.size : Int)) = false ∧ ((r : Int) != 0) = true) ∨
      (((src.size : Int) != 4) = false ∧ ((dst.size : Int) != 4) = false ∧ decide (40 < (opts.size : Int)) = false ∧ ((r : Int) != 0) = false ∧ decide (65535 < (data.size : Int)) = true) := by
    simp only [bne_iff_ne, bne_eq_false_iff_eq, decide_eq_true_eq, decide_eq_false_iff_not]
    unfold BadS at hb
    omega
  clear hb er z1
  rcases hc with d1 | ⟨d1, d2⟩ | ⟨d1, d2, d3⟩ | ⟨d1, d2, d3, d4⟩ | ⟨d1, d2, d3, d4, d5⟩
  all_goals
    go_enter Tryz.func14, Tryz.ntmps14
    go_wp2
    go_ret2
    exact ⟨rfl, bbox1 _ _⟩
theorem or64_16 : ∀ k : Nat, k < 16 → 64 ||| k = 64 + k := by decide
theorem or64 (q : Nat) (h : q < 16) : bits BinOp.or IntKind.i64 64 (q : Int) = 64 + (q : Int) := by
  have h1 := i64_or_nat 64 q (by decide) (Nat.lt_trans h (by decide))
  rw [or64_16 q h] at h1
  exact h1
set_option maxRecDepth 100000 in
set_option maxHeartbeats 4000000 in
theorem v4enc_bad (id ttl pr c3 c4 c6 c7 : Int) (src dst opts data x1 x2 x3 x4 x5 x6 x7 : ByteArray) (q : Nat) (b3 b4 b6 : Bool) (g1 : src.size = 4) (g2 : dst.size = 4) (g3 : opts.size ≤ 40) (g4 : opts.size % 4 = 0) (g5 : data.size ≤ 65535) (hq : q = (20 + opts.size) / 4)
    (h1 : Puts (64 + (q : Int)) 1 x1 0) (h2 : Puts 0 1 x2 0) (h3 : Puts (20 + (opts.size : Int) + (data.size : Int)) 2 x3 c3) (h4 : Puts id 2 x4 c4) (h5 : Puts 0 2 x5 0) (h6 : Puts ttl 1 x6 c6) (h7 : Puts pr 1 x7 c7)
    (n3 : (false || (c3 != 0)) = b3) (n4 : (b3 || (c4 != 0)) = b4) (n6 : (b4 || (c6 != 0)) = b6) (n7 : (b6 || (c7 != 0)) = true)
    (s1 : x1.size ≤ 4) (s2 : x2.size ≤ 4) (s3 : x3.size ≤ 4) (s4 : x4.size ≤ 4) (s5 : x5.size ≤ 4) (s6 : x6.size ≤ 4) (s7 : x7.size ≤ 4) (w : World) :
    Calls Tryz.prog 14 #[.agg #[.int .i64 id, .int .i64 ttl, .int .i64 pr, .string src, .string dst, .string opts, .string data]] w fun e w' => e = .returned (.tuple #[.string ⟨#[]⟩, .int .i64 1]) ∧ Below w.heap.size w w' := by
  have a3 := and3v opts.size (by omega)
  rw [g4] at a3
  have g5i : (data.size : Int) ≤ 65535 := Int.ofNat_le.2 g5
  have G5 := Lib.hid g5
  clear g5
  have q16 : q < 16 := by omega
  have d1 : ((src.size : Int) != 4) = false := by rw [bne_eq_false_iff_eq]; omega
  have d2 : ((dst.size : Int) != 4) = false := by rw [bne_eq_false_iff_eq]; omega
  have d3 : decide (40 < (opts.size : Int)) = false := decide_eq_false (by omega)
  have d5 : decide (65535 < (data.size : Int)) = false := decide_eq_false (by omega)
  have wr1 : IntKind.i64.wrap (20 + (opts.size : Int)) = 20 + (opts.size : Int) := IntWalk.i64_in _ ⟨by omega, by omega⟩
  have wr3 : IntKind.i64.wrap (20 + (opts.size : Int) + (data.size : Int)) = 20 + (opts.size : Int) + (data.size : Int) := IntWalk.i64_in _ ⟨by omega, by omega⟩
  have hdiv : (20 + (opts.size : Int)) / 4 = (q : Int) := by omega
  have htdiv : (20 + (opts.size : Int)).tdiv 4 = (q : Int) := by rw [Int.tdiv_eq_ediv_of_nonneg (by omega)]; exact hdiv
  have HD := Lib.hid (And.intro hdiv htdiv)
  clear hdiv htdiv
  have wq : wrap64 (q : Int) = (q : Int) := IntWalk.wrap64_in _ ⟨by omega, by omega⟩
  have hor := or64 q q16
  obtain ⟨y1, e1⟩ : ∃ y, (⟨#[]⟩ : ByteArray) ++ x1 = y := ⟨_, rfl⟩
  obtain ⟨y2, e2⟩ : ∃ y, y1 ++ x2 = y := ⟨_, rfl⟩
  obtain ⟨y3, e3⟩ : ∃ y, y2 ++ x3 = y := ⟨_, rfl⟩
  obtain ⟨y4, e4⟩ : ∃ y, y3 ++ x4 = y := ⟨_, rfl⟩
  obtain ⟨y5, e5⟩ : ∃ y, y4 ++ x5 = y := ⟨_, rfl⟩
  obtain ⟨y6, e6⟩ : ∃ y, y5 ++ x6 = y := ⟨_, rfl⟩
  obtain ⟨y7, e7⟩ : ∃ y, y6 ++ x7 = y := ⟨_, rfl⟩
  obtain ⟨y8, e8⟩ : ∃ y, y7 ++ x5 = y := ⟨_, rfl⟩
  have t1 : y1.size ≤ 4 := by rw [← e1, size_add]; show 0 + _ ≤ 4; omega
  have t2 : y2.size ≤ 8 := by rw [← e2, size_add]; omega
  have t3 : y3.size ≤ 12 := by rw [← e3, size_add]; omega
  have t4 : y4.size ≤ 16 := by rw [← e4, size_add]; omega
  have t5 : y5.size ≤ 20 := by rw [← e5, size_add]; omega
  have t6 : y6.size ≤ 24 := by rw [← e6, size_add]; omega
  have t7 : y7.size ≤ 28 := by rw [← e7, size_add]; omega
  have t8 : y8.size ≤ 32 := by rw [← e8, size_add]; omega
  have tz : (⟨#[]⟩ : ByteArray).size = 0 := rfl
  have A1 := Lib.hid (show ∀ W : World, KW w.heap.size (.int .i64 id) (.int .i64 ttl) (.int .i64 pr) (.string src) (.string dst) (.string opts) (.string data) ⟨#[]⟩ false w W → Calls Tryz.prog 66 #[.pointer (some ⟨w.heap.size + 1, 0, none⟩), .int .i64 (64 + (q : Int)), .int .i64 1] W fun e W' => e = .returned (.tuple #[]) ∧ KW w.heap.size (.int .i64 id) (.int .i64 ttl) (.int .i64 pr) (.string src) (.string dst) (.string opts) (.string data) y1 false w W' from fun W K => wput_any4 h1 rfl e1 (by omega) K)
  have A2 := Lib.hid (show ∀ W : World, KW w.heap.size (.int .i64 id) (.int .i64 ttl) (.int .i64 pr) (.string src) (.string dst) (.string opts) (.string data) y1 false w W → Calls Tryz.prog 66 #[.pointer (some ⟨w.heap.size + 1, 0, none⟩), .int .i64 0, .int .i64 1] W fun e W' => e = .returned (.tuple #[]) ∧ KW w.heap.size (.int .i64 id) (.int .i64 ttl) (.int .i64 pr) (.string src) (.string dst) (.string opts) (.string data) y2 false w W' from fun W K => wput_any4 h2 rfl e2 (by omega) K)
  have A3 := Lib.hid (show ∀ W : World, KW w.heap.size (.int .i64 id) (.int .i64 ttl) (.int .i64 pr) (.string src) (.string dst) (.string opts) (.string data) y2 false w W → Calls Tryz.prog 66 #[.pointer (some ⟨w.heap.size + 1, 0, none⟩), .int .i64 (20 + (opts.size : Int) + (data.size : Int)), .int .i64 2] W fun e W' => e = .returned (.tuple #[]) ∧ KW w.heap.size (.int .i64 id) (.int .i64 ttl) (.int .i64 pr) (.string src) (.string dst) (.string opts) (.string data) y3 b3 w W' from fun W K => wput_any4 h3 n3 e3 (by omega) K)
  have A4 := Lib.hid (show ∀ W : World, KW w.heap.size (.int .i64 id) (.int .i64 ttl) (.int .i64 pr) (.string src) (.string dst) (.string opts) (.string data) y3 b3 w W → Calls Tryz.prog 66 #[.pointer (some ⟨w.heap.size + 1, 0, none⟩), .int .i64 id, .int .i64 2] W fun e W' => e = .returned (.tuple #[]) ∧ KW w.heap.size (.int .i64 id) (.int .i64 ttl) (.int .i64 pr) (.string src) (.string dst) (.string opts) (.string data) y4 b4 w W' from fun W K => wput_any4 h4 n4 e4 (by omega) K)
  have A5 := Lib.hid (show ∀ W : World, KW w.heap.size (.int .i64 id) (.int .i64 ttl) (.int .i64 pr) (.string src) (.string dst) (.string opts) (.string data) y4 b4 w W → Calls Tryz.prog 66 #[.pointer (some ⟨w.heap.size + 1, 0, none⟩), .int .i64 0, .int .i64 2] W fun e W' => e = .returned (.tuple #[]) ∧ KW w.heap.size (.int .i64 id) (.int .i64 ttl) (.int .i64 pr) (.string src) (.string dst) (.string opts) (.string data) y5 b4 w W' from fun W K => wput_any4 h5 (Bool.or_false _) e5 (by omega) K)
  have A6 := Lib.hid (show ∀ W : World, KW w.heap.size (.int .i64 id) (.int .i64 ttl) (.int .i64 pr) (.string src) (.string dst) (.string opts) (.string data) y5 b4 w W → Calls Tryz.prog 66 #[.pointer (some ⟨w.heap.size + 1, 0, none⟩), .int .i64 ttl, .int .i64 1] W fun e W' => e = .returned (.tuple #[]) ∧ KW w.heap.size (.int .i64 id) (.int .i64 ttl) (.int .i64 pr) (.string src) (.string dst) (.string opts) (.string data) y6 b6 w W' from fun W K => wput_any4 h6 n6 e6 (by omega) K)
  have A7 := Lib.hid (show ∀ W : World, KW w.heap.size (.int .i64 id) (.int .i64 ttl) (.int .i64 pr) (.string src) (.string dst) (.string opts) (.string data) y6 b6 w W → Calls Tryz.prog 66 #[.pointer (some ⟨w.heap.size + 1, 0, none⟩), .int .i64 pr, .int .i64 1] W fun e W' => e = .returned (.tuple #[]) ∧ KW w.heap.size (.int .i64 id) (.int .i64 ttl) (.int .i64 pr) (.string src) (.string dst) (.string opts) (.string data) y7 true w W' from fun W K => wput_any4 h7 n7 e7 (by omega) K)
  have A8 := Lib.hid (show ∀ W : World, KW w.heap.size (.int .i64 id) (.int .i64 ttl) (.int .i64 pr) (.string src) (.string dst) (.string opts) (.string data) y7 true w W → Calls Tryz.prog 66 #[.pointer (some ⟨w.heap.size + 1, 0, none⟩), .int .i64 0, .int .i64 2] W fun e W' => e = .returned (.tuple #[]) ∧ KW w.heap.size (.int .i64 id) (.int .i64 ttl) (.int .i64 pr) (.string src) (.string dst) (.string opts) (.string data) y8 true w W' from fun W K => wput_any4 h5 (Bool.or_false _) e8 (by omega) K)
  obtain ⟨hdiv, htdiv⟩ := HD.out
  clear HD g1 g2 g3 g4 g5i G5 q16 hq h1 h2 h3 h4 h5 h6 h7 n3 n4 n6 n7 tz e1 e2 e3 e4 e5 e6 e7 e8 s1 s2 s3 s4 s5 s6 s7 t1 t2 t3 t4 t5 t6 t7 t8
  go_enter Tryz.func14, Tryz.ntmps14
  go_wp2_with (go_at_call 66; first
      | ((with_reducible refine (A1.out _ (KW.new w _ _ _ _ _ _ _ _ _)).mono ?_); rintro e w1 ⟨rfl, K1⟩; clear A1)
      | ((with_reducible refine (A2.out _ K1).mono ?_); rintro e w2 ⟨rfl, K2⟩; obtain ⟨-, -, -, -, -, -, -, p26, -⟩ := K2.2.1; clear K1; clear A2)
      | ((with_reducible refine (A3.out _ K2).mono ?_); rintro e w3 ⟨rfl, K3⟩; obtain ⟨-, p30, -, -, -, -, -, -, -⟩ := K3.2.1; clear p26; clear K2; clear A3)
      | ((with_reducible refine (A4.out _ K3).mono ?_); rintro e w4 ⟨rfl, K4⟩; clear p30; clear K3; clear A4)
      | ((with_reducible refine (A5.out _ K4).mono ?_); rintro e w5 ⟨rfl, K5⟩; obtain ⟨-, -, p51, -, -, -, -, -, -⟩ := K5.2.1; clear K4; clear A5)
      | ((with_reducible refine (A6.out _ K5).mono ?_); rintro e w6 ⟨rfl, K6⟩; obtain ⟨-, -, -, p62, -, -, -, -, -⟩ := K6.2.1; clear p51; clear K5; clear A6)
      | ((with_reducible refine (A7.out _ K6).mono ?_); rintro e w7 ⟨rfl, K7⟩; clear p62; clear K6; clear A7)
      | ((with_reducible refine (A8.out _ K7).mono ?_); rintro e w8 ⟨rfl, K8⟩; have q81 := K8.2.2.2.2.1; clear K7; clear A8))
  go_ret2
  exact ⟨rfl, K8.1⟩
attribute [local go_sem ↓] Go.wp_at_zero Go.wp_at_succ
set_option maxRecDepth 100000 in
set_option maxHeartbeats 4000000 in
theorem v4enc_in (id ttl pr c3 c4 c6 c7 : Int) (src dst opts data x1 x2 x3 x4 x5 x6 x7 u res : ByteArray) (q : Nat) (b3 b4 b6 : Bool) (g1 : src.size = 4) (g2 : dst.size = 4) (g3 : opts.size ≤ 40) (g4 : opts.size % 4 = 0) (g5 : data.size ≤ 65535) (hq : q = (20 + opts.size) / 4)
    (h1 : Puts (64 + (q : Int)) 1 x1 0) (h2 : Puts 0 1 x2 0) (h3 : Puts (20 + (opts.size : Int) + (data.size : Int)) 2 x3 c3) (h4 : Puts id 2 x4 c4) (h5 : Puts 0 2 x5 0) (h6 : Puts ttl 1 x6 c6) (h7 : Puts pr 1 x7 c7)
    (n3 : (false || (c3 != 0)) = b3) (n4 : (b3 || (c4 != 0)) = b4) (n6 : (b4 || (c6 != 0)) = b6) (n7 : (b6 || (c7 != 0)) = false)
    (s1 : x1.size ≤ 4) (s2 : x2.size ≤ 4) (s3 : x3.size ≤ 4) (s4 : x4.size ≤ 4) (s5 : x5.size ≤ 4) (s6 : x6.size ≤ 4) (s7 : x7.size ≤ 4)
    (hu : ⟨#[]⟩ ++ x1 ++ x2 ++ x3 ++ x4 ++ x5 ++ x6 ++ x7 ++ x5 ++ (src ++ dst) ++ opts = u) (hz : 20 ≤ u.size) (hres : Cs.filled ⟨#[]⟩ u 10 ++ data = res) (w : World) :
    Calls Tryz.prog 14 #[.agg #[.int .i64 id, .int .i64 ttl, .int .i64 pr, .string src, .string dst, .string opts, .string data]] w fun e w' => e = .returned (.tuple #[.string res, .int .i64 0]) ∧ Below w.heap.size w w' := by
  have a3 := and3v opts.size (by omega)
  rw [g4] at a3
  have g5i : (data.size : Int) ≤ 65535 := Int.ofNat_le.2 g5
  have G5 := Lib.hid g5
  clear g5
  have q16 : q < 16 := by omega
  have d1 : ((src.size : Int) != 4) = false := by rw [bne_eq_false_iff_eq]; omega
  have d2 : ((dst.size : Int) != 4) = false := by rw [bne_eq_false_iff_eq]; omega
  have d3 : decide (40 < (opts.size : Int)) = false := decide_eq_false (by omega)
  have d5 : decide (65535 < (data.size : Int)) = false := decide_eq_false (by omega)
  have wr1 : IntKind.i64.wrap (20 + (opts.size : Int)) = 20 + (opts.size : Int) := IntWalk.i64_in _ ⟨by omega, by omega⟩
  have wr3 : IntKind.i64.wrap (20 + (opts.size : Int) + (data.size : Int)) = 20 + (opts.size : Int) + (data.size : Int) := IntWalk.i64_in _ ⟨by omega, by omega⟩
  have hdiv : (20 + (opts.size : Int)) / 4 = (q : Int) := by omega
  have htdiv : (20 + (opts.size : Int)).tdiv 4 = (q : Int) := by rw [Int.tdiv_eq_ediv_of_nonneg (by omega)]; exact hdiv
  have HD := Lib.hid (And.intro hdiv htdiv)
  clear hdiv htdiv
  have wq : wrap64 (q : Int) = (q : Int) := IntWalk.wrap64_in _ ⟨by omega, by omega⟩
  have hor := or64 q q16
  obtain ⟨y1, e1⟩ : ∃ y, (⟨#[]⟩ : ByteArray) ++ x1 = y := ⟨_, rfl⟩
  obtain ⟨y2, e2⟩ : ∃ y, y1 ++ x2 = y := ⟨_, rfl⟩
  obtain ⟨y3, e3⟩ : ∃ y, y2 ++ x3 = y := ⟨_, rfl⟩
  obtain ⟨y4, e4⟩ : ∃ y, y3 ++ x4 = y := ⟨_, rfl⟩
  obtain ⟨y5, e5⟩ : ∃ y, y4 ++ x5 = y := ⟨_, rfl⟩
  obtain ⟨y6, e6⟩ : ∃ y, y5 ++ x6 = y := ⟨_, rfl⟩
  obtain ⟨y7, e7⟩ : ∃ y, y6 ++ x7 = y := ⟨_, rfl⟩
  obtain ⟨y8, e8⟩ : ∃ y, y7 ++ x5 = y := ⟨_, rfl⟩
  have t1 : y1.size ≤ 4 := by rw [← e1, size_add]; show 0 + _ ≤ 4; omega
  have t2 : y2.size ≤ 8 := by rw [← e2, size_add]; omega
  have t3 : y3.size ≤ 12 := by rw [← e3, size_add]; omega
  have t4 : y4.size ≤ 16 := by rw [← e4, size_add]; omega
  have t5 : y5.size ≤ 20 := by rw [← e5, size_add]; omega
  have t6 : y6.size ≤ 24 := by rw [← e6, size_add]; omega
  have t7 : y7.size ≤ 28 := by rw [← e7, size_add]; omega
  have t8 : y8.size ≤ 32 := by rw [← e8, size_add]; omega
  have tz : (⟨#[]⟩ : ByteArray).size = 0 := rfl
  have A1 := Lib.hid (show ∀ W : World, KW w.heap.size (.int .i64 id) (.int .i64 ttl) (.int .i64 pr) (.string src) (.string dst) (.string opts) (.string data) ⟨#[]⟩ false w W → Calls Tryz.prog 66 #[.pointer (some ⟨w.heap.size + 1, 0, none⟩), .int .i64 (64 + (q : Int)), .int .i64 1] W fun e W' => e = .returned (.tuple #[]) ∧ KW w.heap.size (.int .i64 id) (.int .i64 ttl) (.int .i64 pr) (.string src) (.string dst) (.string opts) (.string data) y1 false w W' from fun W K => wput_any4 h1 rfl e1 (by omega) K)
  have A2 := Lib.hid (show ∀ W : World, KW w.heap.size (.int .i64 id) (.int .i64 ttl) (.int .i64 pr) (.string src) (.string dst) (.string opts) (.string data) y1 false w W → Calls Tryz.prog 66 #[.pointer (some ⟨w.heap.size + 1, 0, none⟩), .int .i64 0, .int .i64 1] W fun e W' => e = .returned (.tuple #[]) ∧ KW w.heap.size (.int .i64 id) (.int .i64 ttl) (.int .i64 pr) (.string src) (.string dst) (.string opts) (.string data) y2 false w W' from fun W K => wput_any4 h2 rfl e2 (by omega) K)
  have A3 := Lib.hid (show ∀ W : World, KW w.heap.size (.int .i64 id) (.int .i64 ttl) (.int .i64 pr) (.string src) (.string dst) (.string opts) (.string data) y2 false w W → Calls Tryz.prog 66 #[.pointer (some ⟨w.heap.size + 1, 0, none⟩), .int .i64 (20 + (opts.size : Int) + (data.size : Int)), .int .i64 2] W fun e W' => e = .returned (.tuple #[]) ∧ KW w.heap.size (.int .i64 id) (.int .i64 ttl) (.int .i64 pr) (.string src) (.string dst) (.string opts) (.string data) y3 b3 w W' from fun W K => wput_any4 h3 n3 e3 (by omega) K)
  have A4 := Lib.hid (show ∀ W : World, KW w.heap.size (.int .i64 id) (.int .i64 ttl) (.int .i64 pr) (.string src) (.string dst) (.string opts) (.string data) y3 b3 w W → Calls Tryz.prog 66 #[.pointer (some ⟨w.heap.size + 1, 0, none⟩), .int .i64 id, .int .i64 2] W fun e W' => e = .returned (.tuple #[]) ∧ KW w.heap.size (.int .i64 id) (.int .i64 ttl) (.int .i64 pr) (.string src) (.string dst) (.string opts) (.string data) y4 b4 w W' from fun W K => wput_any4 h4 n4 e4 (by omega) K)
  have A5 := Lib.hid (show ∀ W : World, KW w.heap.size (.int .i64 id) (.int .i64 ttl) (.int .i64 pr) (.string src) (.string dst) (.string opts) (.string data) y4 b4 w W → Calls Tryz.prog 66 #[.pointer (some ⟨w.heap.size + 1, 0, none⟩), .int .i64 0, .int .i64 2] W fun e W' => e = .returned (.tuple #[]) ∧ KW w.heap.size (.int .i64 id) (.int .i64 ttl) (.int .i64 pr) (.string src) (.string dst) (.string opts) (.string data) y5 b4 w W' from fun W K => wput_any4 h5 (Bool.or_false _) e5 (by omega) K)
  have A6 := Lib.hid (show ∀ W : World, KW w.heap.size (.int .i64 id) (.int .i64 ttl) (.int .i64 pr) (.string src) (.string dst) (.string opts) (.string data) y5 b4 w W → Calls Tryz.prog 66 #[.pointer (some ⟨w.heap.size + 1, 0, none⟩), .int .i64 ttl, .int .i64 1] W fun e W' => e = .returned (.tuple #[]) ∧ KW w.heap.size (.int .i64 id) (.int .i64 ttl) (.int .i64 pr) (.string src) (.string dst) (.string opts) (.string data) y6 b6 w W' from fun W K => wput_any4 h6 n6 e6 (by omega) K)
  have A7 := Lib.hid (show ∀ W : World, KW w.heap.size (.int .i64 id) (.int .i64 ttl) (.int .i64 pr) (.string src) (.string dst) (.string opts) (.string data) y6 b6 w W → Calls Tryz.prog 66 #[.pointer (some ⟨w.heap.size + 1, 0, none⟩), .int .i64 pr, .int .i64 1] W fun e W' => e = .returned (.tuple #[]) ∧ KW w.heap.size (.int .i64 id) (.int .i64 ttl) (.int .i64 pr) (.string src) (.string dst) (.string opts) (.string data) y7 false w W' from fun W K => wput_any4 h7 n7 e7 (by omega) K)
  have A8 := Lib.hid (show ∀ W : World, KW w.heap.size (.int .i64 id) (.int .i64 ttl) (.int .i64 pr) (.string src) (.string dst) (.string opts) (.string data) y7 false w W → Calls Tryz.prog 66 #[.pointer (some ⟨w.heap.size + 1, 0, none⟩), .int .i64 0, .int .i64 2] W fun e W' => e = .returned (.tuple #[]) ∧ KW w.heap.size (.int .i64 id) (.int .i64 ttl) (.int .i64 pr) (.string src) (.string dst) (.string opts) (.string data) y8 false w W' from fun W K => wput_any4 h5 (Bool.or_false _) e8 (by omega) K)
  rw [e1, e2, e3, e4, e5, e6, e7, e8] at hu
  obtain ⟨y9, e9⟩ : ∃ y, src ++ dst = y := ⟨_, rfl⟩
  obtain ⟨y10, e10⟩ : ∃ y, y8 ++ y9 = y := ⟨_, rfl⟩
  have t9 : y9.size = 8 := by rw [← e9, size_add]; omega
  have t10 : y10.size ≤ 40 := by rw [← e10, size_add]; omega
  have t11 : u.size ≤ 80 := by rw [← hu, e9, e10, size_add]; exact Nat.add_le_add t10 g3
  have j9 := join2 src dst (by omega)
  have j10 := join2 y8 y9 (by omega)
  have j11 := join2 y10 opts (Nat.le_trans (Nat.add_le_add t10 g3) (by decide))
  rw [e9, e10] at hu
  rw [e9] at j9
  rw [e10] at j10
  rw [hu] at j11
  obtain ⟨f, ef⟩ : ∃ f, Cs.filled ⟨#[]⟩ u 10 = f := ⟨_, rfl⟩
  have tf : f.size = u.size := by rw [← ef]; exact Cs.filled_size _ _ _ (by omega)
  have hF : Fills ⟨#[]⟩ u 10 f 0 := fun w => by rw [← ef]; exact fill_ok ⟨#[]⟩ u 10 (by decide) (by omega) (by omega) (by decide) (by decide) w
  have j12 := join2 f data (Nat.le_trans (Nat.add_le_add (Nat.le_trans (Nat.le_of_eq tf) t11) G5.out) (by decide))
  rw [ef] at hres
  rw [hres] at j12
  obtain ⟨hdiv, htdiv⟩ := HD.out
  clear HD g1 g2 g3 g4 g5i G5 q16 hq h1 h2 h3 h4 h5 h6 h7 n3 n4 n6 n7 tz e1 e2 e3 e4 e5 e6 e7 e8 s1 s2 s3 s4 s5 s6 s7 t1 t2 t3 t4 t5 t6 t7 t8 t9 t10 t11 tf hz hu ef e9 e10
  go_enter Tryz.func14, Tryz.ntmps14
  go_wp2_with (go_at_call 66; first
      | ((with_reducible refine (A1.out _ (KW.new w _ _ _ _ _ _ _ _ _)).mono ?_); rintro e w1 ⟨rfl, K1⟩; clear A1)
      | ((with_reducible refine (A2.out _ K1).mono ?_); rintro e w2 ⟨rfl, K2⟩; obtain ⟨-, -, -, -, -, -, -, p26, -⟩ := K2.2.1; clear K1; clear A2)
      | ((with_reducible refine (A3.out _ K2).mono ?_); rintro e w3 ⟨rfl, K3⟩; obtain ⟨-, p30, -, -, -, -, -, -, -⟩ := K3.2.1; clear p26; clear K2; clear A3)
      | ((with_reducible refine (A4.out _ K3).mono ?_); rintro e w4 ⟨rfl, K4⟩; clear p30; clear K3; clear A4)
      | ((with_reducible refine (A5.out _ K4).mono ?_); rintro e w5 ⟨rfl, K5⟩; obtain ⟨-, -, p51, -, -, -, -, -, -⟩ := K5.2.1; clear K4; clear A5)
      | ((with_reducible refine (A6.out _ K5).mono ?_); rintro e w6 ⟨rfl, K6⟩; obtain ⟨-, -, -, p62, -, -, -, -, -⟩ := K6.2.1; clear p51; clear K5; clear A6)
      | ((with_reducible refine (A7.out _ K6).mono ?_); rintro e w7 ⟨rfl, K7⟩; clear p62; clear K6; clear A7)
      | ((with_reducible refine (A8.out _ K7).mono ?_); rintro e w8 ⟨rfl, K8⟩; have q81 := K8.2.2.2.2.1; clear K7; clear A8))
  clear q81
  go_region_held3 (fun w' => w'.cell? ⟨w.heap.size + 1, 0, none⟩ = some (.string y8) ∧ w'.cell? ⟨w.heap.size, 3, none⟩ = some (.string src) ∧ w'.cell? ⟨w.heap.size, 4, none⟩ = some (.string dst) ∧ w'.cell? ⟨w.heap.size, 5, none⟩ = some (.string opts) ∧ w'.cell? ⟨w.heap.size, 6, none⟩ = some (.string data) ∧ KW w.heap.size (.int .i64 id) (.int .i64 ttl) (.int .i64 pr) (.string src) (.string dst) (.string opts) (.string data) y8 false w w')
    (first | (exact K8.drew.out) | (go_split_ands; exact (KW.next (by assumption) (by assumption)).out))
    (first | ((with_reducible refine (hF.to _).mono ?_); rintro e w9 ⟨rfl, g9⟩))
  have K9 : KW w.heap.size (.int .i64 id) (.int .i64 ttl) (.int .i64 pr) (.string src) (.string dst) (.string opts) (.string data) y8 false w w9 := by first | assumption | (go_split_ands; assumption) | go_split_ands
  have K9b := K9.1
  go_wp2
  go_ret2
  exact ⟨rfl, K9b⟩
end Go.Proofs.YticdmepplfgdiaaGreatDoor
end
section
namespace Go.Proofs.YticdmepplfgdiaaGreatDoor
open Go.RowKit
namespace V4
/-- the head's bytes; y: the second one; c0, c1: its sum; n: how many bytes of data follow -/
def pre (y : UInt8) (id ttl pr : Nat) (c0 c1 : UInt8) (src dst opts : List UInt8) (n : Nat) : List UInt8 :=
  (Pl.be 1 (64 + (20 + opts.length) / 4) ++ [y] ++ Pl.be 2 (20 + opts.length + n) ++ Pl.be 2 id ++ [0, 0] ++ Pl.be 1 ttl ++ Pl.be 1 pr) ++ [c0, c1] ++ (src ++ dst ++ opts)
theorem len1 : ∀ l : List UInt8, l.length = 1 → ∃ x0, l = [x0]
  | [x0], _ => ⟨x0, rfl⟩
theorem len2 : ∀ l : List UInt8, l.length = 2 → ∃ x0 x1, l = [x0, x1]
  | [x0, x1], _ => ⟨x0, x1, rfl⟩
theorem pre_length (y : UInt8) (id ttl pr : Nat) (c0 c1 : UInt8) (src dst opts : List UInt8) (n : Nat) (z1 : src.length = 4) (z2 : dst.length = 4) : (pre y id ttl pr c0 c1 src dst opts n).length = 20 + opts.length := by
  simp [pre, Pl.be_length, z1, z2]; omega
/-- the head, byte by byte -/
theorem pre_bytes (id ttl pr : Nat) (src dst opts : List UInt8) (n : Nat) (o : opts.length ≤ 40) (i : id ≤ 65535) (t : ttl ≤ 255) (p : pr ≤ 255) (m : 20 + opts.length + n ≤ 65535) :
    ∃ h l0 l1 i0 i1 tt pp : UInt8, h.toNat = 64 + (20 + opts.length) / 4 ∧ Pl.num [l0, l1] = 20 + opts.length + n ∧ Pl.num [i0, i1] = id ∧ tt.toNat = ttl ∧ pp.toNat = pr ∧
      ∀ (y : UInt8) (c0 c1 : UInt8), pre y id ttl pr c0 c1 src dst opts n = h :: y :: l0 :: l1 :: i0 :: i1 :: 0 :: 0 :: tt :: pp :: c0 :: c1 :: (src ++ (dst ++ opts)) := by
  obtain ⟨h, hh⟩ := len1 (Pl.be 1 (64 + (20 + opts.length) / 4)) (Pl.be_length _ _)
  obtain ⟨l0, l1, hl⟩ := len2 (Pl.be 2 (20 + opts.length + n)) (Pl.be_length _ _)
  obtain ⟨i0, i1, hi⟩ := len2 (Pl.be 2 id) (Pl.be_length _ _)
  obtain ⟨tt, ht⟩ := len1 (Pl.be 1 ttl) (Pl.be_length _ _)
  obtain ⟨pp, hp⟩ := len1 (Pl.be 1 pr) (Pl.be_length _ _)
  refine ⟨h, l0, l1, i0, i1, tt, pp, ?_, ?_, ?_, ?_, ?_, ?_⟩
  · have k := congrArg Pl.num hh
    rw [Pl.num_one, Pl.num_be_of_lt (by omega)] at k
    exact k.symm
  · rw [← hl]; exact Pl.num_be_of_lt (Nat.lt_of_le_of_lt m (by decide))
  · rw [← hi]; exact Pl.num_be_of_lt (Nat.lt_of_le_of_lt i (by decide))
  · have k := congrArg Pl.num ht
    rw [Pl.num_one, Pl.num_be_of_lt (by omega)] at k
    exact k.symm
  · have k := congrArg Pl.num hp
    rw [Pl.num_one, Pl.num_be_of_lt (by omega)] at k
    exact k.symm
  · intro y c0 c1
    rw [pre, hh, hl, hi, ht, hp]
    simp
theorem bytes (l : List UInt8) : (⟨l.toArray⟩ : ByteArray).data.toList = l := rfl
/-- a head with its sum put in: the same head with two other bytes there, and its sum is 0 -/
theorem filled_pre (y : UInt8) (id ttl pr : Nat) (c0 c1 : UInt8) (src dst opts : List UInt8) (n : Nat) (z1 : src.length = 4) (z2 : dst.length = 4) :
    ∃ d0 d1, Cs.filled ⟨#[]⟩ ⟨(pre y id ttl pr c0 c1 src dst opts n).toArray⟩ 10 = ⟨(pre y id ttl pr d0 d1 src dst opts n).toArray⟩ ∧ Cs.sum (pre y id ttl pr d0 d1 src dst opts n) = 0 := by
  obtain ⟨d0, d1, hd⟩ := len2 (Pl.be 2 (Cs.sum (Cs.gap ⟨#[]⟩ ⟨(pre y id ttl pr c0 c1 src dst opts n).toArray⟩ 10).data.toList)) (Pl.be_length _ _)
  have lf : (Pl.be 1 (64 + (20 + opts.length) / 4) ++ [y] ++ Pl.be 2 (20 + opts.length + n) ++ Pl.be 2 id ++ [0, 0] ++ Pl.be 1 ttl ++ Pl.be 1 pr).length = 10 := by simp [Pl.be_length]
  have e : Cs.filled ⟨#[]⟩ ⟨(pre y id ttl pr c0 c1 src dst opts n).toArray⟩ 10 = ⟨(pre y id ttl pr d0 d1 src dst opts n).toArray⟩ := by
    apply ba_eq
    unfold Cs.filled
    rw [hd, data_add, data_add, data_extract, data_extract, bytes, bytes, bytes, List.drop_zero, Nat.sub_zero]
    unfold pre
    rw [List.append_assoc _ [c0, c1], List.take_left' lf, show 10 + 2 = 12 from rfl]
    have e2 : ((Pl.be 1 (64 + (20 + opts.length) / 4) ++ [y] ++ Pl.be 2 (20 + opts.length + n) ++ Pl.be 2 id ++ [0, 0] ++ Pl.be 1 ttl ++ Pl.be 1 pr) ++ ([c0, c1] ++ (src ++ dst ++ opts))).drop 12 = src ++ dst ++ opts := by
      rw [← List.append_assoc]
      exact List.drop_left' (by rw [List.length_append, lf]; rfl)
    rw [e2, List.take_of_length_le (by rw [size_mk]; simp [Pl.be_length, z1, z2]; omega)]
  refine ⟨d0, d1, e, ?_⟩
  have h := Cs.filled_right ⟨#[]⟩ ⟨(pre y id ttl pr c0 c1 src dst opts n).toArray⟩ 10 (by decide) (by decide) (by rw [size_mk, pre_length _ _ _ _ _ _ _ _ _ _ z1 z2]; omega)
  rw [e] at h
  have e3 : ((⟨#[]⟩ : ByteArray) ++ ⟨(pre y id ttl pr d0 d1 src dst opts n).toArray⟩).data.toList = pre y id ttl pr d0 d1 src dst opts n := by rw [data_add]; rfl
  rw [e3] at h
  exact h
end V4
def Dec4 (s : ByteArray) (v : Value) (x : Int) : Prop :=
  ∀ w : World, Calls Tryz.prog 17 #[.string s] w fun e w' => e = .returned (.tuple #[v, .int .i64 x]) ∧ Below w.heap.size w w'
theorem Dec4.to {s : ByteArray} {v : Value} {x : Int} (h : Dec4 s v x) (w : World) : Calls Tryz.prog 17 #[.string s] w fun e w' => e = .returned (.tuple #[v, .int .i64 x]) ∧ Below w.heap.size w w' := h w
def Enc4 (id ttl pr : Int) (src dst opts data s : ByteArray) (x : Int) : Prop :=
  ∀ w : World, Calls Tryz.prog 14 #[.agg #[.int .i64 id, .int .i64 ttl, .int .i64 pr, .string src, .string dst, .string opts, .string data]] w fun e w' => e = .returned (.tuple #[.string s, .int .i64 x]) ∧ Below w.heap.size w w'
theorem Enc4.to {id ttl pr : Int} {src dst opts data s : ByteArray} {x : Int} (h : Enc4 id ttl pr src dst opts data s x) (w : World) :
  Calls Tryz.prog 14 #[.agg #[.int .i64 id, .int .i64 ttl, .int .i64 pr, .string src, .string dst, .string opts, .string data]] w fun e w' => e = .returned (.tuple #[.string s, .int .i64 x]) ∧ Below w.heap.size w w' := h w
/-- WHAT WAS ENCODED IS DECODED, whatever the second byte is, and whatever stands behind -/
theorem dec4_enc (S src dst opts data : ByteArray) (y d0 d1 : UInt8) (id ttl pr : Nat) (t : List UInt8) (z1 : src.size = 4) (z2 : dst.size = 4) (z3 : opts.size ≤ 40) (z4 : opts.size % 4 = 0) (i : id ≤ 65535) (tl : ttl ≤ 255) (p : pr ≤ 255) (m : 20 + opts.size + data.size ≤ 65535)
    (hS : S.data.toList = V4.pre y id ttl pr d0 d1 src.data.toList dst.data.toList opts.data.toList data.size ++ data.data.toList ++ t) (hsum : Cs.sum (V4.pre y id ttl pr d0 d1 src.data.toList dst.data.toList opts.data.toList data.size) = 0) (hl : S.size ≤ 281474976710656) : Dec4 S (v4 id ttl pr src dst opts data) 0 := by
  have e1 := size_toList src
  have e2 := size_toList dst
  have e3 := size_toList opts
  have e4 := size_toList data
  obtain ⟨h, l0, l1, i0, i1, tt, pp, hh, hll, hi, ht, hp, hpre⟩ := V4.pre_bytes id ttl pr src.data.toList dst.data.toList opts.data.toList data.size (by omega) i tl p (by rw [e3]; exact m)
  have lp := V4.pre_length y id ttl pr d0 d1 src.data.toList dst.data.toList opts.data.toList data.size (by omega) (by omega)
  have hL : S.data.toList = h :: y :: l0 :: l1 :: i0 :: i1 :: 0 :: 0 :: tt :: pp :: d0 :: d1 :: (src.data.toList ++ (dst.data.toList ++ (opts.data.toList ++ (data.data.toList ++ t)))) := by
    rw [hS, hpre]; simp
  rw [e3] at hh hll lp
  have hz : S.size = 20 + opts.size + data.size + t.length := by
    rw [← size_toList, hS, List.length_append, List.length_append, lp, e4]
  have k0 : b1 S 0 = 64 + (20 + opts.size) / 4 := by unfold b1; rw [hL]; exact hh
  have k8 : b1 S 8 = ttl := by unfold b1; rw [hL]; exact ht
  have k9 : b1 S 9 = pr := by unfold b1; rw [hL]; exact hp
  have w2' : w2 S 2 = 20 + opts.size + data.size := by unfold w2; rw [hL]; exact hll
  have w4' : w2 S 4 = id := by unfold w2; rw [hL]; exact hi
  have w6' : w2 S 6 = 0 := by unfold w2; rw [hL]; rfl
  have q4 : 4 * ((20 + opts.size) / 4) = 20 + opts.size := by omega
  have q15 : (20 + opts.size) / 4 ≤ 15 := by omega
  have q5 : 5 ≤ (20 + opts.size) / 4 := by omega
  have dr : S.data.toList.drop (20 + opts.size) = data.data.toList ++ t := by rw [hS, List.append_assoc]; exact List.drop_left' lp
  have d12 : S.data.toList.drop 12 = src.data.toList ++ (dst.data.toList ++ (opts.data.toList ++ (data.data.toList ++ t))) := by rw [hL]; rfl
  have d16 : S.data.toList.drop 16 = dst.data.toList ++ (opts.data.toList ++ (data.data.toList ++ t)) := by
    rw [show 16 = 12 + 4 from rfl, ← List.drop_drop, d12, List.drop_left' (by omega)]
  have d20 : S.data.toList.drop 20 = opts.data.toList ++ (data.data.toList ++ t) := by
    rw [show 20 = 16 + 4 from rfl, ← List.drop_drop, d16, List.drop_left' (by omega)]
  intro w
  refine v4dec_in S ((20 + opts.size) / 4) _ 0 (by omega) hl (by rw [k0]; omega) ?_ w
  refine .inr (.inr ⟨by rw [k0]; omega, by omega, by omega, _, rfl, .inr ⟨?_, .inr (.inr (.inr ⟨?_, ?_, .inl w6', src, dst, opts, data, ?_, ?_, ?_, ?_, ?_, rfl⟩))⟩⟩)
  · rw [data_extract, List.drop_zero, Nat.sub_zero, q4, hS, List.append_assoc, List.take_left' lp]; exact hsum
  · rw [w2', q4]; exact Nat.le_add_right _ _
  · rw [w2', hz]; exact Nat.le_add_right _ _
  · apply ba_eq; rw [data_extract, d12, List.take_left' (by omega)]
  · apply ba_eq; rw [data_extract, d16, List.take_left' (by omega)]
  · apply ba_eq; rw [data_extract, d20, q4, List.take_left' (by omega)]
  · apply ba_eq; rw [data_extract, q4, dr, w2', List.take_left' (by rw [e4]; exact (Nat.add_sub_cancel_left _ _).symm)]
  · rw [w4', k8, k9]
theorem puts_case (n : Int) (m : Nat) (hn : n ≤ 9223372036854775807) (h1 : 1 ≤ m) (h4 : m ≤ 4) : (∃ v, Puts n m v 1 ∧ v.size ≤ 4 ∧ (n < 0 ∨ (256 : Int) ^ m ≤ n)) ∨ (∃ v, Puts n m v 0 ∧ v.size ≤ 4 ∧ 0 ≤ n ∧ n < (256 : Int) ^ m) := by
  by_cases h : n < 0 ∨ (256 : Int) ^ m ≤ n
  · exact .inl ⟨_, puts_bad n m hn h1 h4 h, by decide, h⟩
  · obtain ⟨x, rfl⟩ := Int.eq_ofNat_of_zero_le (show 0 ≤ n by omega)
    refine .inr ⟨_, puts_good x m (by omega) h1 h4 ?_, by rw [size_mk, Pl.be_length]; exact h4, by omega, by omega⟩
    have h2 : (x : Int) < (256 : Int) ^ m := by omega
    have h3 : ((256 ^ m : Nat) : Int) = (256 : Int) ^ m := by simp
    rw [← h3] at h2
    exact Int.ofNat_lt.1 h2
theorem be_zero1 : Pl.be 1 0 = [0] := by decide
theorem be_zero2 : Pl.be 2 0 = [0, 0] := by decide
/-- the bytes of a packet that may be -/
theorem enc4_ok (id ttl pr : Nat) (src dst opts data : ByteArray) (z1 : src.size = 4) (z2 : dst.size = 4) (z3 : opts.size ≤ 40) (z4 : opts.size % 4 = 0) (i : id ≤ 65535) (tl : ttl ≤ 255) (p : pr ≤ 255) (m : 20 + opts.size + data.size ≤ 65535) :
    Enc4 id ttl pr src dst opts data (Cs.filled ⟨#[]⟩ ⟨(V4.pre 0 id ttl pr 0 0 src.data.toList dst.data.toList opts.data.toList data.size).toArray⟩ 10 ++ data) 0 := by
  have e1 := size_toList src
  have e2 := size_toList dst
  have e3 := size_toList opts
  have e4 := size_toList data
  have lp := V4.pre_length 0 id ttl pr 0 0 src.data.toList dst.data.toList opts.data.toList data.size (by omega) (by omega)
  have hdm : data.size ≤ 65535 := Nat.le_trans (Nat.le_add_left _ _) m
  have p1 : Puts (64 + (((20 + opts.size) / 4 : Nat) : Int)) 1 ⟨(Pl.be 1 (64 + (20 + opts.size) / 4)).toArray⟩ 0 := by
    have h := puts_good (64 + (20 + opts.size) / 4) 1 (by omega) (by decide) (by decide) (by omega)
    rw [Int.natCast_add] at h
    exact h
  have p3 : Puts (20 + (opts.size : Int) + (data.size : Int)) 2 ⟨(Pl.be 2 (20 + opts.size + data.size)).toArray⟩ 0 := by
    have h := puts_good (20 + opts.size + data.size) 2 (Nat.le_trans m (by decide)) (by decide) (by decide) (Nat.lt_of_le_of_lt m (by decide))
    rw [Int.natCast_add, Int.natCast_add] at h
    exact h
  have p2 : Puts ((0 : Nat) : Int) 1 ⟨(Pl.be 1 0).toArray⟩ 0 := puts_good 0 1 (by decide) (by decide) (by decide) (by decide)
  have p5 : Puts ((0 : Nat) : Int) 2 ⟨(Pl.be 2 0).toArray⟩ 0 := puts_good 0 2 (by decide) (by decide) (by decide) (by decide)
  have p4 : Puts id 2 ⟨(Pl.be 2 id).toArray⟩ 0 := puts_good id 2 (Nat.le_trans i (by decide)) (by decide) (by decide) (Nat.lt_of_le_of_lt i (by decide))
  have p6 : Puts ttl 1 ⟨(Pl.be 1 ttl).toArray⟩ 0 := puts_good ttl 1 (Nat.le_trans tl (by decide)) (by decide) (by decide) (Nat.lt_of_le_of_lt tl (by decide))
  have p7 : Puts pr 1 ⟨(Pl.be 1 pr).toArray⟩ 0 := puts_good pr 1 (Nat.le_trans p (by decide)) (by decide) (by decide) (Nat.lt_of_le_of_lt p (by decide))
  intro w
  refine v4enc_in id ttl pr 0 0 0 0 src dst opts data _ _ _ _ _ _ _ ⟨(V4.pre 0 id ttl pr 0 0 src.data.toList dst.data.toList opts.data.toList data.size).toArray⟩ _ ((20 + opts.size) / 4) false false false z1 z2 z3 z4 hdm rfl p1 p2 p3 p4 p5 p6 p7 rfl rfl rfl rfl ?_ ?_ ?_ ?_ ?_ ?_ ?_ ?_ (by rw [size_mk, lp]; omega) rfl w
  all_goals first | (rw [size_mk, Pl.be_length]; decide) | skip
  apply ba_eq
  rw [be_zero1, be_zero2]
  simp [V4.pre, e3]
theorem enc4_arg (id ttl pr : Int) (src dst opts data : ByteArray) (hi : id ≤ 9223372036854775807) (ht : ttl ≤ 9223372036854775807) (hp : pr ≤ 9223372036854775807) (ho : opts.size ≤ 140737488351232) (hnot : BadS src dst opts data ∨ 65535 < 20 + (opts.size : Int) + (data.size : Int) ∨ id < 0 ∨ 65535 < id ∨ ttl < 0 ∨ 255 < ttl ∨ pr < 0 ∨ 255 < pr) :
    Enc4 id ttl pr src dst opts data ⟨#[]⟩ 1 := by
  intro w
  by_cases hb : BadS src dst opts data
  · exact v4enc_form id ttl pr src dst opts data ho hb w
  · unfold BadS at hb
    have g1 : src.size = 4 := by omega
    have g2 : dst.size = 4 := by omega
    have g3 : opts.size ≤ 40 := by omega
    have g4 : opts.size % 4 = 0 := by omega
    have g5 : (data.size : Int) ≤ 65535 := by omega
    have hn : 65535 < 20 + (opts.size : Int) + (data.size : Int) ∨ id < 0 ∨ 65535 < id ∨ ttl < 0 ∨ 255 < ttl ∨ pr < 0 ∨ 255 < pr := hnot.resolve_left hb
    clear hb hnot
    have p1 : Puts (64 + (((20 + opts.size) / 4 : Nat) : Int)) 1 ⟨(Pl.be 1 (64 + (20 + opts.size) / 4)).toArray⟩ 0 := by
      have h := puts_good (64 + (20 + opts.size) / 4) 1 (by omega) (by decide) (by decide) (by omega)
      rw [Int.natCast_add] at h
      exact h
    have p2 : Puts ((0 : Nat) : Int) 1 ⟨(Pl.be 1 0).toArray⟩ 0 := puts_good 0 1 (by decide) (by decide) (by decide) (by decide)
    have p5 : Puts ((0 : Nat) : Int) 2 ⟨(Pl.be 2 0).toArray⟩ 0 := puts_good 0 2 (by decide) (by decide) (by decide) (by decide)
    have go : ∀ (c3 c4 c6 c7 : Int) (x3 x4 x6 x7 : ByteArray), Puts (20 + (opts.size : Int) + (data.size : Int)) 2 x3 c3 → Puts id 2 x4 c4 → Puts ttl 1 x6 c6 → Puts pr 1 x7 c7 → x3.size ≤ 4 → x4.size ≤ 4 → x6.size ≤ 4 → x7.size ≤ 4 →
        ((((false || (c3 != 0)) || (c4 != 0)) || (c6 != 0)) || (c7 != 0)) = true → Calls Tryz.prog 14 #[.agg #[.int .i64 id, .int .i64 ttl, .int .i64 pr, .string src, .string dst, .string opts, .string data]] w fun e w' => e = .returned (.tuple #[.string ⟨#[]⟩, .int .i64 1]) ∧ Below w.heap.size w w' := by
      intro c3 c4 c6 c7 x3 x4 x6 x7 q3 q4 q6 q7 s3 s4 s6 s7 hbad
      exact v4enc_bad id ttl pr c3 c4 c6 c7 src dst opts data _ _ x3 x4 _ x6 x7 ((20 + opts.size) / 4) _ _ _ g1 g2 g3 g4 (Int.ofNat_le.1 g5) rfl p1 p2 q3 q4 p5 q6 q7 rfl rfl rfl hbad (by rw [size_mk, Pl.be_length]; decide) (by rw [size_mk, Pl.be_length]; decide) s3 s4 (by rw [size_mk, Pl.be_length]; decide) s6 s7 w
    rcases puts_case (20 + (opts.size : Int) + (data.size : Int)) 2 (by omega) (by decide) (by decide) with ⟨x3, q3, s3, r3⟩ | ⟨x3, q3, s3, r3⟩ <;>
    rcases puts_case id 2 hi (by decide) (by decide) with ⟨x4, q4, s4, r4⟩ | ⟨x4, q4, s4, r4⟩ <;>
    rcases puts_case ttl 1 ht (by decide) (by decide) with ⟨x6, q6, s6, r6⟩ | ⟨x6, q6, s6, r6⟩ <;>
    rcases puts_case pr 1 hp (by decide) (by decide) with ⟨x7, q7, s7, r7⟩ | ⟨x7, q7, s7, r7⟩
    all_goals first | exact go _ _ _ _ _ _ _ _ q3 q4 q6 q7 s3 s4 s6 s7 rfl | skip
    exfalso
    omega
/-- no packet may be so -/
def Bad4 (id ttl pr : Int) (src dst opts data : ByteArray) : Prop := BadS src dst opts data ∨ 65535 < 20 + (opts.size : Int) + (data.size : Int) ∨ id < 0 ∨ 65535 < id ∨ ttl < 0 ∨ 255 < ttl ∨ pr < 0 ∨ 255 < pr
/-- a packet is none, or its bytes are these -/
theorem enc4_case (id ttl pr : Int) (src dst opts data : ByteArray) (hi : id ≤ 9223372036854775807) (ht : ttl ≤ 9223372036854775807) (hp : pr ≤ 9223372036854775807) (ho : opts.size ≤ 140737488351232) :
    Enc4 id ttl pr src dst opts data ⟨#[]⟩ 1 ∨
    ∃ (i t p : Nat) (d0 d1 : UInt8) (s : ByteArray), id = i ∧ ttl = t ∧ pr = p ∧ src.size = 4 ∧ dst.size = 4 ∧ opts.size ≤ 40 ∧ opts.size % 4 = 0 ∧ i ≤ 65535 ∧ t ≤ 255 ∧ p ≤ 255 ∧ 20 + opts.size + data.size ≤ 65535 ∧ Enc4 i t p src dst opts data s 0 ∧
      s.data.toList = V4.pre 0 i t p d0 d1 src.data.toList dst.data.toList opts.data.toList data.size ++ data.data.toList ∧ s.size = 20 + opts.size + data.size ∧ Cs.sum (V4.pre 0 i t p d0 d1 src.data.toList dst.data.toList opts.data.toList data.size) = 0 := by
  by_cases hb : Bad4 id ttl pr src dst opts data
  · exact .inl (enc4_arg id ttl pr src dst opts data hi ht hp ho hb)
  · unfold Bad4 BadS at hb
    obtain ⟨i, rfl⟩ := Int.eq_ofNat_of_zero_le (show 0 ≤ id by omega)
    obtain ⟨t, rfl⟩ := Int.eq_ofNat_of_zero_le (show 0 ≤ ttl by omega)
    obtain ⟨p, rfl⟩ := Int.eq_ofNat_of_zero_le (show 0 ≤ pr by omega)
    have z1 : src.size = 4 := by omega
    have z2 : dst.size = 4 := by omega
    have z3 : opts.size ≤ 40 := by omega
    have z4 : opts.size % 4 = 0 := by omega
    have mi : (20 + (opts.size : Int) + (data.size : Int)) ≤ 65535 := by omega
    have ii : (i : Int) ≤ 65535 := by omega
    have t1 : t ≤ 255 := by omega
    have p1 : p ≤ 255 := by omega
    clear hb hi ht hp
    have i1 : i ≤ 65535 := Int.ofNat_le.1 ii
    have m : 20 + opts.size + data.size ≤ 65535 := Int.ofNat_le.1 mi
    clear mi ii
    have e1 := size_toList src
    have e2 := size_toList dst
    obtain ⟨d0, d1, hf, hsum⟩ := V4.filled_pre 0 i t p 0 0 src.data.toList dst.data.toList opts.data.toList data.size (by omega) (by omega)
    have hE := enc4_ok i t p src dst opts data z1 z2 z3 z4 i1 t1 p1 m
    rw [hf] at hE
    refine .inr ⟨i, t, p, d0, d1, _, rfl, rfl, rfl, z1, z2, z3, z4, i1, t1, p1, m, hE, ?_, ?_, hsum⟩
    · rw [data_add]
    · rw [size_add, size_mk, V4.pre_length _ _ _ _ _ _ _ _ _ _ (by omega) (by omega), size_toList]
end Go.Proofs.YticdmepplfgdiaaGreatDoor
end
