/-
  What the program's ether.within, fine and Encode compute. Conditions: those of each case.
-/
import Derived.Test.YthpdfihmpoofaaaBuilder
import Derived.Test.YthpdfihmpoofaaaPut
import Derived.Deep.RegionHeld3
import Derived.Deep.DrawnRows
import Derived.Deep.DeepCutAuto
namespace Go.Proofs.Ythpdfihmpoofaaa
open Go.RowKit

/-- a box of seven cells -/
def Box7 (W : World) (b : Nat) (v0 v1 v2 v3 v4 v5 v6 : Value) : Prop :=
  b < W.heap.size ∧ W.cell? ⟨b, 0, none⟩ = some v0 ∧ W.cell? ⟨b, 1, none⟩ = some v1 ∧ W.cell? ⟨b, 2, none⟩ = some v2 ∧ W.cell? ⟨b, 3, none⟩ = some v3 ∧ W.cell? ⟨b, 4, none⟩ = some v4 ∧ W.cell? ⟨b, 5, none⟩ = some v5 ∧ W.cell? ⟨b, 6, none⟩ = some v6 ∧ ∀ o, W.frozen? ⟨b, o, none⟩ = false
theorem Box7.new (W : World) (v0 v1 v2 v3 v4 v5 v6 : Value) (t : TypeId) : Box7 (W.alloc (.cells #[v0, v1, v2, v3, v4, v5, v6] t)) W.heap.size v0 v1 v2 v3 v4 v5 v6 := by
  refine ⟨by simp, ?_, ?_, ?_, ?_, ?_, ?_, ?_, ?_⟩
  all_goals first | (intro o; simp [go_sem]; done) | simp [go_sem]
theorem Box7.under {W W' : World} {b n : Nat} {v0 v1 v2 v3 v4 v5 v6 : Value} (h : Box7 W b v0 v1 v2 v3 v4 v5 v6) (g : Below n W W') (hb : b < n) : Box7 W' b v0 v1 v2 v3 v4 v5 v6 := by
  obtain ⟨z, c0, c1, c2, c3, c4, c5, c6, cf⟩ := h
  exact ⟨Nat.lt_of_lt_of_le z g.size, (g.cell hb).trans c0, (g.cell hb).trans c1, (g.cell hb).trans c2, (g.cell hb).trans c3, (g.cell hb).trans c4, (g.cell hb).trans c5, (g.cell hb).trans c6, fun o => (g.frozen hb).trans (cf o)⟩
theorem ball {w a : World} (h : Below w.heap.size w a) (o : Obj) : Below w.heap.size w (a.alloc o) := h.alloc h.size o
theorem Box7.below {W W' : World} {b : Nat} {v0 v1 v2 v3 v4 v5 v6 : Value} (h : Box7 W b v0 v1 v2 v3 v4 v5 v6) (g : Below W.heap.size W W') : Box7 W' b v0 v1 v2 v3 v4 v5 v6 := h.under g h.1

theorem Box7.drew {W : World} {b : Nat} {v0 v1 v2 v3 v4 v5 v6 : Value} (h : Box7 W b v0 v1 v2 v3 v4 v5 v6) : Box7 W.drew b v0 v1 v2 v3 v4 v5 v6 := h
/-- a store elsewhere -/
theorem Box7.put {W : World} {b c o : Nat} {v0 v1 v2 v3 v4 v5 v6 x : Value} (h : Box7 W b v0 v1 v2 v3 v4 v5 v6) (hc : b ≠ c) : Box7 (W.setCell ⟨c, o, none⟩ x) b v0 v1 v2 v3 v4 v5 v6 := by
  obtain ⟨z, c0, c1, c2, c3, c4, c5, c6, cf⟩ := h
  have far : ∀ k, (W.setCell ⟨c, o, none⟩ x).cell? ⟨b, k, none⟩ = W.cell? ⟨b, k, none⟩ := fun k => World.cell?_setCell_other W _ _ _ (by intro e; cases e; exact hc rfl)
  exact ⟨by simpa using z, (far 0).trans c0, (far 1).trans c1, (far 2).trans c2, (far 3).trans c3, (far 4).trans c4, (far 5).trans c5, (far 6).trans c6, fun k => by rw [World.frozen?_setCell]; exact cf k⟩
theorem cell_same {W : World} {b k : Nat} {u x : Value} (h : W.cell? ⟨b, k, none⟩ = some u) : (W.setCell ⟨b, k, none⟩ x).cell? ⟨b, k, none⟩ = some x := World.cell?_setCell_same _ _ _ h
theorem cell_far {W : World} {b j k : Nat} {u x : Value} (hn : j ≠ k) (h : W.cell? ⟨b, k, none⟩ = some u) : (W.setCell ⟨b, j, none⟩ x).cell? ⟨b, k, none⟩ = some u := (World.cell?_setCell_other _ _ _ _ (by intro e; cases e; exact hn rfl)).trans h
/-- a tag and what stands behind it, written into a frame's box -/
theorem Box7.tagged {W : World} {b : Nat} {v0 v1 v2 v3 v4 v5 v6 x2 x3 x4 x5 x6 : Value} (h : Box7 W b v0 v1 v2 v3 v4 v5 v6) :
    Box7 (((((W.setCell ⟨b, 2, none⟩ x2).setCell ⟨b, 4, none⟩ x4).setCell ⟨b, 3, none⟩ x3).setCell ⟨b, 5, none⟩ x5).setCell ⟨b, 6, none⟩ x6) b v0 v1 x2 x3 x4 x5 x6 := by
  obtain ⟨z, c0, c1, c2, c3, c4, c5, c6, cf⟩ := h
  refine ⟨by simpa using z, ?_, ?_, ?_, ?_, ?_, ?_, ?_, fun k => by simpa using cf k⟩
  · exact cell_far (by decide) (cell_far (by decide) (cell_far (by decide) (cell_far (by decide) (cell_far (by decide) c0))))
  · exact cell_far (by decide) (cell_far (by decide) (cell_far (by decide) (cell_far (by decide) (cell_far (by decide) c1))))
  · exact cell_far (by decide) (cell_far (by decide) (cell_far (by decide) (cell_far (by decide) (cell_same c2))))
  · exact cell_far (by decide) (cell_far (by decide) (cell_same (cell_far (by decide) (cell_far (by decide) c3))))
  · exact cell_far (by decide) (cell_far (by decide) (cell_far (by decide) (cell_same (cell_far (by decide) c4))))
  · exact cell_far (by decide) (cell_same (cell_far (by decide) (cell_far (by decide) (cell_far (by decide) c5))))
  · exact cell_same (cell_far (by decide) (cell_far (by decide) (cell_far (by decide) (cell_far (by decide) c6))))

/-- does a number lie within bounds? -/
def Withins (n m : Int) (b : Bool) : Prop :=
  ∀ w : World, Calls Try.prog 32 #[.int .i64 n, .int .i64 m] w fun e w' => e = .returned (.bool b) ∧ w = w'
theorem Withins.to {n m : Int} {b : Bool} (h : Withins n m b) (w : World) : Calls Try.prog 32 #[.int .i64 n, .int .i64 m] w fun e w' => e = .returned (.bool b) ∧ w = w' := h w
theorem withins_yes (n m : Int) (h0 : 0 ≤ n) (h1 : n ≤ m) : Withins n m true := by
  intro w
  have d0 := decide_eq_true h0
  have d1 := decide_eq_true h1
  clear h0 h1
  go_enter Try.func32, Try.ntmps32
  go_wp2
  go_ret
  exact ⟨rfl, rfl⟩
theorem withins_no (n m : Int) (h : n < 0 ∨ m < n) : Withins n m false := by
  intro w
  have hc : decide (0 ≤ n) = false ∨ (decide (0 ≤ n) = true ∧ decide (n ≤ m) = false) := by
    simp only [decide_eq_true_eq, decide_eq_false_iff_not]; omega
  clear h
  rcases hc with d0 | ⟨d0, d1⟩
  all_goals
    go_enter Try.func32, Try.ntmps32
    go_wp2
    go_ret
    exact ⟨rfl, rfl⟩

/-- may a frame be? -/
def Good3 (dst src : ByteArray) (tg : Bool) (vl pr ty : Int) (data : ByteArray) : Prop :=
  dst.size = 6 ∧ src.size = 6 ∧ data.size ≤ 2000 ∧ 0 ≤ vl ∧ vl ≤ 4094 ∧ 0 ≤ pr ∧ pr ≤ 7 ∧ 0 ≤ ty ∧ ty ≤ 65535 ∧ (tg = true ∨ (vl = 0 ∧ pr = 0 ∧ ty ≠ 33024))

theorem wn_eq (n m : Int) (b : Bool) (h : b = decide (0 ≤ n ∧ n ≤ m)) : Withins n m b := by
  subst h
  by_cases c : 0 ≤ n ∧ n ≤ m
  · rw [decide_eq_true c]; exact withins_yes n m c.1 c.2
  · rw [decide_eq_false c]; exact withins_no n m (by omega)

set_option maxRecDepth 100000 in
set_option maxHeartbeats 4000000 in
theorem fine_is (dst src data : ByteArray) (tg : Bool) (vl pr ty : Int) (r : Bool) (hz : data.size ≤ 140737488351232) (hr : r = true ↔ Good3 dst src tg vl pr ty data) (w : World) :
    Calls Try.prog 21 #[.agg #[.string dst, .string src, .bool tg, .int .i64 vl, .int .i64 pr, .int .i64 ty, .string data]] w fun e w' => e = .returned (.bool r) ∧ Below w.heap.size w w' := by
  obtain ⟨b1, e1⟩ : ∃ b, b = ((dst.size : Int) != 6) := ⟨_, rfl⟩
  obtain ⟨b2, e2⟩ : ∃ b, b = ((src.size : Int) != 6) := ⟨_, rfl⟩
  obtain ⟨b3, e3⟩ : ∃ b, b = decide (2000 < (data.size : Int)) := ⟨_, rfl⟩
  obtain ⟨b4, e4⟩ : ∃ b, b = decide (0 ≤ vl ∧ vl ≤ 4094) := ⟨_, rfl⟩
  obtain ⟨b5, e5⟩ : ∃ b, b = decide (0 ≤ pr ∧ pr ≤ 7) := ⟨_, rfl⟩
  obtain ⟨b6, e6⟩ : ∃ b, b = decide (0 ≤ ty ∧ ty ≤ 65535) := ⟨_, rfl⟩
  obtain ⟨b7, e7⟩ : ∃ b, b = (vl == 0) := ⟨_, rfl⟩
  obtain ⟨b8, e8⟩ : ∃ b, b = (pr == 0) := ⟨_, rfl⟩
  obtain ⟨b9, e9⟩ : ∃ b, b = (ty != 33024) := ⟨_, rfl⟩
  have hw4 := wn_eq vl 4094 b4 e4
  have hw5 := wn_eq pr 7 b5 e5
  have hw6 := wn_eq ty 65535 b6 e6
  have hR : r = (!b1 && (!b2 && (!b3 && (b4 && (b5 && (b6 && (tg || (b7 && (b8 && b9))))))))) := by
    rw [Bool.eq_iff_iff, hr, e1, e2, e3, e4, e5, e6, e7, e8, e9]
    cases tg
    all_goals
      simp only [Good3, Bool.and_eq_true, Bool.or_eq_true, Bool.not_eq_true', decide_eq_true_eq, decide_eq_false_iff_not, beq_iff_eq, bne_iff_ne, bne_eq_false_iff_eq, ne_eq, Bool.false_eq_true, false_or, true_or, and_true]
      omega
  have HR := Lib.hid hR
  have f1 := e1.symm
  have f2 := e2.symm
  have f3 := e3.symm
  have f7 := e7.symm
  have f8 := e8.symm
  have f9 := e9.symm
  clear hR hr hz e1 e2 e3 e4 e5 e6 e7 e8 e9
  have fin : ∀ v, Hid (v = r → Ending.returned (.bool v) = .returned (.bool r)) := fun v h => by rw [h]
  have HF := Lib.hid fin
  clear fin
  rcases b1 with _ | _
  · rcases b2 with _ | _
    · rcases b3 with _ | _
      · rcases b4 with _ | _
        · go_enter Try.func21, Try.ntmps21
          go_wp2_with (first | ((with_reducible refine (hw4.to _).mono ?_); rintro e w1 ⟨rfl, rfl⟩) | ((with_reducible refine (hw5.to _).mono ?_); rintro e w1 ⟨rfl, rfl⟩) | ((with_reducible refine (hw6.to _).mono ?_); rintro e w1 ⟨rfl, rfl⟩))
          go_ret
          exact ⟨by rw [HR.out]; rfl, bbox1 _ _⟩
        · rcases b5 with _ | _
          · go_enter Try.func21, Try.ntmps21
            go_wp2_with (first | ((with_reducible refine (hw4.to _).mono ?_); rintro e w1 ⟨rfl, rfl⟩) | ((with_reducible refine (hw5.to _).mono ?_); rintro e w1 ⟨rfl, rfl⟩) | ((with_reducible refine (hw6.to _).mono ?_); rintro e w1 ⟨rfl, rfl⟩))
            go_ret
            exact ⟨by rw [HR.out]; rfl, bbox1 _ _⟩
          · rcases b6 with _ | _
            · go_enter Try.func21, Try.ntmps21
              go_wp2_with (first | ((with_reducible refine (hw4.to _).mono ?_); rintro e w1 ⟨rfl, rfl⟩) | ((with_reducible refine (hw5.to _).mono ?_); rintro e w1 ⟨rfl, rfl⟩) | ((with_reducible refine (hw6.to _).mono ?_); rintro e w1 ⟨rfl, rfl⟩))
              go_ret
              exact ⟨by rw [HR.out]; rfl, bbox1 _ _⟩
            · rcases tg with _ | _ <;> rcases b7 with _ | _ <;> rcases b8 with _ | _
              all_goals
                go_enter Try.func21, Try.ntmps21
                go_wp2_with (first | ((with_reducible refine (hw4.to _).mono ?_); rintro e w1 ⟨rfl, rfl⟩) | ((with_reducible refine (hw5.to _).mono ?_); rintro e w1 ⟨rfl, rfl⟩) | ((with_reducible refine (hw6.to _).mono ?_); rintro e w1 ⟨rfl, rfl⟩))
                go_ret
                exact ⟨by rw [HR.out]; rfl, bbox1 _ _⟩
      · go_enter Try.func21, Try.ntmps21
        go_wp2
        go_ret
        exact ⟨by rw [HR.out]; rfl, bbox1 _ _⟩
    · go_enter Try.func21, Try.ntmps21
      go_wp2
      go_ret
      exact ⟨by rw [HR.out]; rfl, bbox1 _ _⟩
  · go_enter Try.func21, Try.ntmps21
    go_wp2
    go_ret
    exact ⟨by rw [HR.out]; rfl, bbox1 _ _⟩
end Go.Proofs.Ythpdfihmpoofaaa
