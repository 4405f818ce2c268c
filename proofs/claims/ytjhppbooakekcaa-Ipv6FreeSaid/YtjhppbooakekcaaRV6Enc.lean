/-
  What the document's own May and Encode (siphonref05) compute. Conditions: those of each case.
-/
import Derived.Test.YtjhppbooakekcaaV6Dec
import Derived.Test.YtjhppbooakekcaaRAt
namespace Go.Proofs.Ytjhppbooakekcaa
open Go.RowKit

set_option maxRecDepth 100000 in
set_option maxHeartbeats 4000000 in
theorem rv6may_no (h n : Int) (src dst data : ByteArray) (f : Bool) (z3 : data.size ≤ 140737488351232) (hnot : h < 0 ∨ 255 < h ∨ n < 1 ∨ 255 < n ∨ src.size ≠ 16 ∨ dst.size ≠ 16 ∨ 65527 < data.size) (w : World) :
    Calls Try.prog 20 #[.agg #[.int .i64 h, .int .i64 n, .string src, .string dst, .bool f, .string data]] w fun e w' => e = .returned (.bool false) ∧ Below w.heap.size w w' := by
  have hs1 : ((src.size : Int) == 16) = decide (src.size = 16) := by rw [Bool.eq_iff_iff, beq_iff_eq, decide_eq_true_eq]; omega
  have hs2 : ((dst.size : Int) == 16) = decide (dst.size = 16) := by rw [Bool.eq_iff_iff, beq_iff_eq, decide_eq_true_eq]; omega
  have hc : decide (0 ≤ h) = false ∨ (decide (0 ≤ h) = true ∧ decide (h ≤ 255) = false) ∨ (decide (0 ≤ h) = true ∧ decide (h ≤ 255) = true ∧ decide (1 ≤ n) = false) ∨ (decide (0 ≤ h) = true ∧ decide (h ≤ 255) = true ∧ decide (1 ≤ n) = true ∧ decide (n ≤ 255) = false) ∨
      (decide (0 ≤ h) = true ∧ decide (h ≤ 255) = true ∧ decide (1 ≤ n) = true ∧ decide (n ≤ 255) = true ∧ ((src.size : Int) == 16) = false) ∨
      (decide (0 ≤ h) = true ∧ decide (h ≤ 255) = true ∧ decide (1 ≤ n) = true ∧ decide (n ≤ 255) = true ∧ ((src.size : Int) == 16) = true ∧ ((dst.size : Int) == 16) = false) ∨
      (decide (0 ≤ h) = true ∧ decide (h ≤ 255) = true ∧ decide (1 ≤ n) = true ∧ decide (n ≤ 255) = true ∧ ((src.size : Int) == 16) = true ∧ ((dst.size : Int) == 16) = true ∧ decide ((data.size : Int) ≤ 65527) = false) := by
    rw [hs1, hs2]
    simp only [decide_eq_true_eq, decide_eq_false_iff_not]
    omega
  clear hnot hs1 hs2
  rcases hc with h1 | ⟨h1, h2⟩ | ⟨h1, h2, h3⟩ | ⟨h1, h2, h3, h4⟩ | ⟨h1, h2, h3, h4, h5⟩ | ⟨h1, h2, h3, h4, h5, h6⟩ | ⟨h1, h2, h3, h4, h5, h6, h7⟩
  all_goals
    go_enter Try.func20, Try.ntmps20
    go_wp2
    go_ret
    exact ⟨rfl, bbox1 _ _⟩

set_option maxRecDepth 100000 in
set_option maxHeartbeats 4000000 in
theorem rv6may_yes (h n : Int) (src dst data : ByteArray) (f : Bool) (h0 : 0 ≤ h) (h1 : h ≤ 255) (n0 : 1 ≤ n) (n1 : n ≤ 255) (z1 : src.size = 16) (z2 : dst.size = 16) (z3 : data.size ≤ 65527) (w : World) :
    Calls Try.prog 20 #[.agg #[.int .i64 h, .int .i64 n, .string src, .string dst, .bool f, .string data]] w fun e w' => e = .returned (.bool true) ∧ Below w.heap.size w w' := by
  have k1 := decide_eq_true h0
  have k2 := decide_eq_true h1
  have k3 := decide_eq_true n0
  have k4 := decide_eq_true n1
  have k5 : ((src.size : Int) == 16) = true := by rw [z1]; rfl
  have k6 : ((dst.size : Int) == 16) = true := by rw [z2]; rfl
  have k7 : decide ((data.size : Int) ≤ 65527) = true := decide_eq_true (by omega)
  clear h0 h1 n0 n1 z1 z2 z3
  go_enter Try.func20, Try.ntmps20
  go_wp2
  go_ret
  exact ⟨rfl, bbox1 _ _⟩

set_option maxRecDepth 100000 in
set_option maxHeartbeats 1000000 in
theorem rv6enc_arg (h n : Int) (src dst data : ByteArray) (f : Bool) (z3 : data.size ≤ 140737488351232) (hnot : h < 0 ∨ 255 < h ∨ n < 1 ∨ 255 < n ∨ src.size ≠ 16 ∨ dst.size ≠ 16 ∨ 65527 < data.size) (w : World) :
    Calls Try.prog 14 #[.agg #[.int .i64 h, .int .i64 n, .string src, .string dst, .bool f, .string data]] w fun e w' => e = .returned (.tuple #[.string ⟨#[]⟩, .int .i64 1]) ∧ Below w.heap.size w w' := by
  have hm := fun w => rv6may_no h n src dst data f z3 hnot w
  clear hnot
  go_enter Try.func14, Try.ntmps14
  go_wp2_with ((with_reducible refine (hm _).mono ?_); rintro e w1 ⟨rfl, g1⟩)
  go_ret2
  exact ⟨rfl, bstep (bbox1 _ _) g1⟩

/-- Encode's own box while it works -/
def KeptE (n0 : Nat) (v0 v1 v2 v3 v4 v5 : Value) (w W : World) : Prop := Below n0 w W ∧ Box6 W n0 v0 v1 v2 v3 v4 v5
/-- the same, with its cells laid open -/
def OpenE (n0 : Nat) (v0 v1 v2 v3 v4 v5 : Value) (w W : World) : Prop :=
  W.cell? ⟨n0, 0, none⟩ = some v0 ∧ W.cell? ⟨n0, 1, none⟩ = some v1 ∧ W.cell? ⟨n0, 2, none⟩ = some v2 ∧ W.cell? ⟨n0, 3, none⟩ = some v3 ∧ W.cell? ⟨n0, 5, none⟩ = some v5 ∧ KeptE n0 v0 v1 v2 v3 v4 v5 w W
theorem KeptE.out {n0 : Nat} {v0 v1 v2 v3 v4 v5 : Value} {w W : World} (h : KeptE n0 v0 v1 v2 v3 v4 v5 w W) : OpenE n0 v0 v1 v2 v3 v4 v5 w W := ⟨h.2.2.1, h.2.2.2.1, h.2.2.2.2.1, h.2.2.2.2.2.1, h.2.2.2.2.2.2.2.1, h⟩
theorem openE_next {n0 : Nat} {v0 v1 v2 v3 v4 v5 : Value} {w W W' : World} (g : Below W.heap.size W W') (h : KeptE n0 v0 v1 v2 v3 v4 v5 w W) : OpenE n0 v0 v1 v2 v3 v4 v5 w W' :=
  KeptE.out ⟨h.1.trans (g.mono (Nat.le_of_lt h.2.1)), h.2.below g⟩
theorem openE_drew {n0 : Nat} {v0 v1 v2 v3 v4 v5 : Value} {w W : World} (h : KeptE n0 v0 v1 v2 v3 v4 v5 w W) : OpenE n0 v0 v1 v2 v3 v4 v5 w W.drew :=
  KeptE.out ⟨h.1.drew, h.2⟩

attribute [local go_sem ↓] Go.wp_at_zero Go.wp_at_succ
set_option maxRecDepth 100000 in
set_option maxHeartbeats 4000000 in
theorem rv6enc_in (h n nn : Int) (src dst data xn xh body nx z res : ByteArray) (f : Bool) (z1 : src.size = 16) (z2 : dst.size = 16) (z3 : data.size ≤ 65527) (zn : xn.size = 1) (zh : xh.size = 1) (zz : z.size = 2) (znx : nx.size = 1)
    (hm : ∀ w, Calls Try.prog 20 #[.agg #[.int .i64 h, .int .i64 n, .string src, .string dst, .bool f, .string data]] w fun e w' => e = .returned (.bool true) ∧ Below w.heap.size w w')
    (hN : ROfs n 1 xn) (hH : ROfs h 1 xh) (hZ : ROfs body.size 2 z) (hX : ROfs nn 1 nx) (hb : (f = false ∧ body = data ∧ nn = n) ∨ (f = true ∧ body = xn ++ ⟨#[0, 5, 2, 0, 0, 1, 0]⟩ ++ data ∧ nn = 0))
    (hres : ⟨#[96, 0, 0, 0]⟩ ++ z ++ nx ++ xh ++ src ++ dst ++ body = res) (w : World) :
    Calls Try.prog 14 #[.agg #[.int .i64 h, .int .i64 n, .string src, .string dst, .bool f, .string data]] w fun e w' => e = .returned (.tuple #[.string res, .int .i64 0]) ∧ Below w.heap.size w w' := by
  obtain ⟨y1, hy1⟩ : ∃ y : ByteArray, y = ⟨#[96, 0, 0, 0]⟩ ++ z := ⟨_, rfl⟩
  obtain ⟨y2, hy2⟩ : ∃ y, y = y1 ++ nx := ⟨_, rfl⟩
  obtain ⟨y3, hy3⟩ : ∃ y, y = y2 ++ xh := ⟨_, rfl⟩
  obtain ⟨y4, hy4⟩ : ∃ y, y = y3 ++ src := ⟨_, rfl⟩
  obtain ⟨y5, hy5⟩ : ∃ y, y = y4 ++ dst := ⟨_, rfl⟩
  obtain ⟨u1, hu1⟩ : ∃ y : ByteArray, y = xn ++ ⟨#[0, 5, 2, 0, 0, 1, 0]⟩ := ⟨_, rfl⟩
  have s1 : y1.size = 6 := by rw [hy1, size_add, zz]; rfl
  have s2 : y2.size = 7 := by rw [hy2, size_add, s1, znx]
  have s3 : y3.size = 8 := by rw [hy3, size_add, s2, zh]
  have s4 : y4.size = 24 := by rw [hy4, size_add, s3, z1]
  have s5 : y5.size = 40 := by rw [hy5, size_add, s4, z2]
  have t1 : u1.size = 8 := by rw [hu1, size_add, zn]; rfl
  have zb : body.size ≤ 65535 := by
    rcases hb with ⟨_, r, _⟩ | ⟨_, r, _⟩
    · rw [r]; omega
    · rw [r, ← hu1, size_add]; omega
  have j1 := join2 ⟨#[96, 0, 0, 0]⟩ z (by show 4 + z.size ≤ _; omega)
  have j2 := join2 y1 nx (by omega)
  have j3 := join2 y2 xh (by omega)
  have j4 := join2 y3 src (by omega)
  have j5 := join2 y4 dst (by omega)
  have j6 := join2 y5 body (by omega)
  have j7 := join2 xn ⟨#[0, 5, 2, 0, 0, 1, 0]⟩ (by show xn.size + 7 ≤ _; omega)
  have j9 := join2 u1 data (by omega)
  have hr2 : y5 ++ body = res := by rw [hy5, hy4, hy3, hy2, hy1]; exact hres
  rw [← hy1] at j1
  rw [← hy2] at j2
  rw [← hy3] at j3
  rw [← hy4] at j4
  rw [← hy5] at j5
  rw [hr2] at j6
  rw [← hu1] at j7
  have hb2 : (f = false ∧ body = data ∧ nn = n) ∨ (f = true ∧ u1 ++ data = body ∧ nn = 0) := by
    rcases hb with r | ⟨r1, r2, r3⟩
    · exact .inl r
    · exact .inr ⟨r1, by rw [r2, hu1], r3⟩
  have HM := Lib.hid hm
  clear hm hres hb hy1 hy2 hy3 hy4 hy5 hu1 hr2 s1 s2 s3 s4 s5 t1 zb zn zh zz znx z1 z2 z3
  rcases hb2 with ⟨rfl, rfl, rfl⟩ | ⟨rfl, r2, rfl⟩
  · clear j7 j9
    go_enter Try.func14, Try.ntmps14
    go_wp2_with ((with_reducible refine (HM.out _).mono ?_); rintro e w1 ⟨rfl, g1⟩; have B1 := (Box6.new _ _ _ _ _ _ _ _).below g1; obtain ⟨y1, c0, c1, c2, c3, c4, c5, cf⟩ := B1)
    have K1 : KeptE w.heap.size _ _ _ _ _ _ w w1 := ⟨bstep (bbox1 _ _) g1, (Box6.new _ _ _ _ _ _ _ _).below g1⟩
    clear c0 c1 c2 c3 c4 c5 cf
    go_region_held3 (fun w' => w'.cell? ⟨w.heap.size, 0, none⟩ = some (.int .i64 h) ∧ w'.cell? ⟨w.heap.size, 1, none⟩ = some (.int .i64 nn) ∧ w'.cell? ⟨w.heap.size, 2, none⟩ = some (.string src) ∧ w'.cell? ⟨w.heap.size, 3, none⟩ = some (.string dst) ∧ w'.cell? ⟨w.heap.size, 5, none⟩ = some (.string body) ∧ KeptE w.heap.size (.int .i64 h) (.int .i64 nn) (.string src) (.string dst) (.bool false) (.string body) w w')
      (first | (exact openE_drew K1) | (go_split_ands; exact openE_next (by assumption) (by assumption)))
      (first | ((with_reducible refine (hZ.to _).mono ?_); rintro e w2 ⟨rfl, g2⟩) | ((with_reducible refine (hX.to _).mono ?_); rintro e w3 ⟨rfl, g3⟩) | ((with_reducible refine (hH.to _).mono ?_); rintro e w4 ⟨rfl, g4⟩))
    have K4 : KeptE w.heap.size (.int .i64 h) (.int .i64 nn) (.string src) (.string dst) (.bool false) (.string body) w w4 := by first | assumption | (go_split_ands; assumption) | go_split_ands
    have K4b := K4.1
    go_wp2
    go_ret2
    exact ⟨rfl, K4b⟩
  · rw [r2] at j9
    clear r2
    go_enter Try.func14, Try.ntmps14
    go_wp2_with ((with_reducible refine (HM.out _).mono ?_); rintro e w1 ⟨rfl, g1⟩; have B1 := (Box6.new _ _ _ _ _ _ _ _).below g1; obtain ⟨y1, c0, c1, c2, c3, c4, c5, cf⟩ := B1)
    have K1 : KeptE w.heap.size _ _ _ _ _ _ w w1 := ⟨bstep (bbox1 _ _) g1, (Box6.new _ _ _ _ _ _ _ _).below g1⟩
    clear c0 c1 c2 c3 c4 c5 cf
    go_region_held3 (fun w' => w'.cell? ⟨w.heap.size, 0, none⟩ = some (.int .i64 h) ∧ w'.cell? ⟨w.heap.size, 1, none⟩ = some (.int .i64 n) ∧ w'.cell? ⟨w.heap.size, 2, none⟩ = some (.string src) ∧ w'.cell? ⟨w.heap.size, 3, none⟩ = some (.string dst) ∧ w'.cell? ⟨w.heap.size, 5, none⟩ = some (.string data) ∧ KeptE w.heap.size (.int .i64 h) (.int .i64 n) (.string src) (.string dst) (.bool true) (.string data) w w')
      (first | (exact openE_drew K1) | (go_split_ands; exact openE_next (by assumption) (by assumption)))
      (first | ((with_reducible refine (hN.to _).mono ?_); rintro e w5 ⟨rfl, g5⟩))
    have K2 : KeptE w.heap.size (.int .i64 h) (.int .i64 n) (.string src) (.string dst) (.bool true) (.string data) w w5 := by first | assumption | (go_split_ands; assumption) | go_split_ands
    go_wp2_with fail
    go_region_held3 (fun w' => w'.cell? ⟨w.heap.size, 0, none⟩ = some (.int .i64 h) ∧ w'.cell? ⟨w.heap.size, 1, none⟩ = some (.int .i64 n) ∧ w'.cell? ⟨w.heap.size, 2, none⟩ = some (.string src) ∧ w'.cell? ⟨w.heap.size, 3, none⟩ = some (.string dst) ∧ w'.cell? ⟨w.heap.size, 5, none⟩ = some (.string data) ∧ KeptE w.heap.size (.int .i64 h) (.int .i64 n) (.string src) (.string dst) (.bool true) (.string data) w w')
      (first | (exact openE_drew K2) | (go_split_ands; exact openE_next (by assumption) (by assumption)))
      (first | ((with_reducible refine (hZ.to _).mono ?_); rintro e w2 ⟨rfl, g2⟩) | ((with_reducible refine (hX.to _).mono ?_); rintro e w3 ⟨rfl, g3⟩) | ((with_reducible refine (hH.to _).mono ?_); rintro e w4 ⟨rfl, g4⟩))
    have K4 : KeptE w.heap.size (.int .i64 h) (.int .i64 n) (.string src) (.string dst) (.bool true) (.string data) w w4 := by first | assumption | (go_split_ands; assumption) | go_split_ands
    have K4b := K4.1
    go_wp2
    go_ret2
    exact ⟨rfl, K4b⟩
end Go.Proofs.Ytjhppbooakekcaa
