/-
  What the document's own Encode (siphonref06) computes. Conditions: those of each.
-/
import Derived.Test.YthleobklagjlbaaRBpB
import Derived.Deep.RegionHeld3
import Derived.Deep.DrawnRows
namespace Go.Proofs.Ythleobklagjlbaa
open Go.RowKit

set_option maxRecDepth 100000 in
set_option maxHeartbeats 2000000 in
theorem renc_arg (r b c p a : Int) (x y z : Bool) (h : c < 0 ∨ 4294967295 < c ∨ p < 0 ∨ 65535 < p ∨ a < 0 ∨ 255 < a) (w : World) :
    Calls Try.prog 13 #[.agg #[.int .u64 r, .int .i64 c, .int .u64 b, .int .i64 p, .int .i64 a, .bool x, .bool y, .bool z]] w fun e w' => e = .returned (.tuple #[.string ⟨#[]⟩, .int .i64 1]) ∧ Below w.heap.size w w' := by
  have hm := fun w => rmay_no r b c p a x y z h w
  clear h
  go_enter Try.func13, Try.ntmps13
  go_wp2_with ((with_reducible refine (hm _).mono ?_); rintro e w1 ⟨rfl, g1⟩)
  go_ret2
  exact ⟨rfl, bstep (bbox1 _ _) g1⟩

/-- what Encode's own boxes hold while it works -/
def Kept2 (n m : Nat) (r c b p a : Int) (w W : World) : Prop :=
  Below n w W ∧ n < W.heap.size ∧ m < W.heap.size ∧ W.cell? ⟨m, 0, none⟩ = some (.int .u64 r) ∧ W.cell? ⟨m, 1, none⟩ = some (.int .i64 c) ∧ W.cell? ⟨m, 2, none⟩ = some (.int .u64 b) ∧ W.cell? ⟨m, 3, none⟩ = some (.int .i64 p) ∧ W.cell? ⟨n, 4, none⟩ = some (.int .i64 a)
/-- the same, with the four cells that the drawn region reads laid open -/
def Open2 (n m : Nat) (r c b p a : Int) (w W : World) : Prop :=
  W.cell? ⟨m, 0, none⟩ = some (.int .u64 r) ∧ W.cell? ⟨m, 1, none⟩ = some (.int .i64 c) ∧ W.cell? ⟨m, 2, none⟩ = some (.int .u64 b) ∧ W.cell? ⟨m, 3, none⟩ = some (.int .i64 p) ∧ Kept2 n m r c b p a w W
theorem open2_next {n m : Nat} {r c b p a : Int} {w W w' : World} (g : Below W.heap.size W w') (h : Kept2 n m r c b p a w W) : Open2 n m r c b p a w w' := by
  obtain ⟨h0, z, y, c0, c1, c2, c3, c4⟩ := h
  have hz := g.size
  have k : Kept2 n m r c b p a w w' := ⟨h0.trans (g.mono (by omega)), by omega, by omega, (g.cell y).trans c0, (g.cell y).trans c1, (g.cell y).trans c2, (g.cell y).trans c3, (g.cell z).trans c4⟩
  exact ⟨k.2.2.2.1, k.2.2.2.2.1, k.2.2.2.2.2.1, k.2.2.2.2.2.2.1, k⟩
theorem open2_of {n m : Nat} {r c b p a : Int} {w W w' : World} (g : Below W.heap.size W w')
    (h : W.cell? ⟨m, 0, none⟩ = some (.int .u64 r) ∧ W.cell? ⟨m, 1, none⟩ = some (.int .i64 c) ∧ W.cell? ⟨m, 2, none⟩ = some (.int .u64 b) ∧ W.cell? ⟨m, 3, none⟩ = some (.int .i64 p) ∧ Kept2 n m r c b p a w W) : Kept2 n m r c b p a w w' :=
  (open2_next g h.2.2.2.2).2.2.2.2
theorem open2_drew {n m : Nat} {r c b p a : Int} {w W : World} (h : Kept2 n m r c b p a w W) : Open2 n m r c b p a w W.drew := by
  obtain ⟨h0, z, y, c0, c1, c2, c3, c4⟩ := h
  exact ⟨c0, c1, c2, c3, h0.drew, z, y, c0, c1, c2, c3, c4⟩
theorem kept2_first {n : Nat} {r c b p a : Int} {w w1 : World} (h : Below n w w1) (z : n < w1.heap.size) (c4 : w1.cell? ⟨n, 4, none⟩ = some (.int .i64 a)) :
    Kept2 n w1.heap.size r c b p a w (w1.alloc (.cells #[.int .u64 r, .int .i64 c, .int .u64 b, .int .i64 p] 24)) := by
  refine ⟨h.alloc (by omega) _, by simp; omega, by simp, by simp [go_sem], by simp [go_sem], by simp [go_sem], by simp [go_sem], ?_⟩
  exact ((Below.refl _ w1).alloc (Nat.le_refl _) _).cell (p := ⟨n, 4, none⟩) z |>.trans c4

attribute [local go_sem ↓] Go.wp_at_zero Go.wp_at_succ
set_option maxRecDepth 100000 in
set_option maxHeartbeats 0 in
theorem renc_in (r c b p a : Int) (x y z : Bool) (vf vc vp va vr vb res : ByteArray) (hm : ∀ w, Calls Try.prog 23 #[.agg #[.int .u64 r, .int .i64 c, .int .u64 b, .int .i64 p, .int .i64 a, .bool x, .bool y, .bool z]] w fun e w' => e = .returned (.bool true) ∧ Below w.heap.size w w')
    (hF : ROfs (Bp.flags x y z : Nat) 1 vf) (hC : ROfs c 4 vc) (hP : ROfs p 2 vp) (hA : ROfs a 1 va) (hR : REights r vr) (hE : REights b vb)
    (sf : vf.size ≤ 8) (sc : vc.size ≤ 8) (sp : vp.size ≤ 8) (sa : va.size ≤ 8) (sr : vr.size ≤ 8) (sb : vb.size ≤ 8) (hres : ⟨#[66, 66, 3, 0, 0, 2, 2]⟩ ++ vf ++ vr ++ vc ++ vb ++ vp ++ va ++ ⟨#[0, 20, 0, 2, 0, 15, 0, 0]⟩ = res) (w : World) :
    Calls Try.prog 13 #[.agg #[.int .u64 r, .int .i64 c, .int .u64 b, .int .i64 p, .int .i64 a, .bool x, .bool y, .bool z]] w fun e w' => e = .returned (.tuple #[.string res, .int .i64 0]) ∧ Below w.heap.size w w' := by
  obtain ⟨y1, hy1⟩ : ∃ y : ByteArray, y = ⟨#[66, 66, 3, 0, 0, 2, 2]⟩ ++ vf := ⟨_, rfl⟩
  obtain ⟨y2, hy2⟩ : ∃ y, y = y1 ++ vr := ⟨_, rfl⟩
  obtain ⟨y3, hy3⟩ : ∃ y, y = y2 ++ vc := ⟨_, rfl⟩
  obtain ⟨y4, hy4⟩ : ∃ y, y = y3 ++ vb := ⟨_, rfl⟩
  obtain ⟨y5, hy5⟩ : ∃ y, y = y4 ++ vp := ⟨_, rfl⟩
  obtain ⟨y6, hy6⟩ : ∃ y, y = y5 ++ va := ⟨_, rfl⟩
  have s1 : y1.size = 7 + vf.size := by rw [hy1, size_add]; rfl
  have s2 : y2.size = y1.size + vr.size := by rw [hy2, size_add]
  have s3 : y3.size = y2.size + vc.size := by rw [hy3, size_add]
  have s4 : y4.size = y3.size + vb.size := by rw [hy4, size_add]
  have s5 : y5.size = y4.size + vp.size := by rw [hy5, size_add]
  have s6 : y6.size = y5.size + va.size := by rw [hy6, size_add]
  have j1 := join2 ⟨#[66, 66, 3, 0, 0, 2, 2]⟩ vf (by show 7 + vf.size ≤ _; omega)
  have j2 := join2 y1 vr (by omega)
  have j3 := join2 y2 vc (by omega)
  have j4 := join2 y3 vb (by omega)
  have j5 := join2 y4 vp (by omega)
  have j6 := join2 y5 va (by omega)
  have j7 := join2 y6 ⟨#[0, 20, 0, 2, 0, 15, 0, 0]⟩ (by show y6.size + 8 ≤ _; omega)
  rw [← hy1] at j1
  rw [← hy2] at j2
  rw [← hy3] at j3
  rw [← hy4] at j4
  rw [← hy5] at j5
  rw [← hy6] at j6
  have hr2 : y6 ++ ⟨#[0, 20, 0, 2, 0, 15, 0, 0]⟩ = res := by rw [hy6, hy5, hy4, hy3, hy2, hy1]; exact hres
  rw [hr2] at j7
  clear hres hr2 hy1 hy2 hy3 hy4 hy5 hy6 s1 s2 s3 s4 s5 s6 sf sc sp sa sr sb
  cases x <;> cases y <;> cases z
  all_goals
    have HM := Lib.hid hm
    clear hm
    simp only [Bp.flags, Bool.false_eq_true, ite_true, ite_false, Nat.add_zero, Nat.reduceAdd, Int.cast_ofNat_Int] at hF
    go_enter Try.func13, Try.ntmps13
    go_wp2_with ((with_reducible refine (HM.out _).mono ?_); rintro e w1 ⟨rfl, g1⟩; obtain ⟨z1, c0, c1, c2, c3, c4, c5, c6, c7⟩ := box8 g1)
    have H1 := kept2_first (r := r) (c := c) (b := b) (p := p) (bstep (bbox1 _ _) g1) z1 c4
    clear c0 c1 c2 c3 c4 c5 c6 c7
    go_region_held3 (fun w' => w'.cell? ⟨w1.heap.size, 0, none⟩ = some (.int .u64 r) ∧ w'.cell? ⟨w1.heap.size, 1, none⟩ = some (.int .i64 c) ∧ w'.cell? ⟨w1.heap.size, 2, none⟩ = some (.int .u64 b) ∧ w'.cell? ⟨w1.heap.size, 3, none⟩ = some (.int .i64 p) ∧ Kept2 w.heap.size w1.heap.size r c b p a w w')
      (first | (exact open2_drew H1) | (go_split_ands; exact open2_next (by assumption) (by assumption)))
      (first | ((with_reducible refine (hF.to _).mono ?_); rintro e w2 ⟨rfl, g2⟩) | ((with_reducible refine (hR.to _).mono ?_); rintro e w3 ⟨rfl, g3⟩) | ((with_reducible refine (hC.to _).mono ?_); rintro e w4 ⟨rfl, g4⟩) | ((with_reducible refine (hE.to _).mono ?_); rintro e w5 ⟨rfl, g5⟩) | ((with_reducible refine (hP.to _).mono ?_); rintro e w6 ⟨rfl, g6⟩))
    have H6 : Kept2 w.heap.size w1.heap.size r c b p a w w6 := by first | assumption | (go_split_ands; assumption) | go_split_ands
    have H6b := H6.1
    have H6c := H6.2.2.2.2.2.2.2
    go_wp2_with ((with_reducible refine (hA.to _).mono ?_); rintro e w7 ⟨rfl, g7⟩)
    go_ret2
    exact ⟨rfl, bstep H6b g7⟩
end Go.Proofs.Ythleobklagjlbaa
