/-
  What the program's ether.within, fine and Encode compute. Conditions: those of each case. What the program's ether.Decode computes. Conditions: those of each case. What the program's ether.Encode computes. Conditions: those of each case. What is encoded is decoded: ether's plain law, without the document's functions (the first half of XEthLaw). Conditions: those of each case. What ether.Many and ether.Group, and the document's own (siphonref03), tell. Conditions: those of each case. XBox7 where ether's texts are there too (they hold the rest of it). Conditions: none. igmp's small functions: a group's address, a record's kind, the addresses' sizes. Conditions: those of each.
-/
import Derived.Deep.RegionHeld3
import Derived.Deep.DrawnRows
import Derived.Deep.DeepCutAuto
import Derived.Test.YticdmepplfgdiaaGreatDoorQ05
import Derived.Test.YticdmepplfgdiaaGreatDoorQ03
import Derived.Test.YticdmepplfgdiaaGreatDoorQ00
set_option linter.unusedVariables false
set_option linter.unusedSimpArgs false
section
namespace Go.Proofs.YticdmepplfgdiaaGreatDoor
open Go.RowKit
/-- a box of seven cells -/
def Box7 (W : World) (b : Nat) (v0 v1 v2 v3 v4 v5 v6 : Value) : Prop :=
  b < W.heap.size ∧ W.cell? ⟨b, 0, none⟩ = some v0 ∧ W.cell? ⟨b, 1, none⟩ = some v1 ∧ W.cell? ⟨b, 2, none⟩ = some v2 ∧ W.cell? ⟨b, 3, none⟩ = some v3 ∧ W.cell? ⟨b, 4, none⟩ = some v4 ∧ W.cell? ⟨b, 5, none⟩ = some v5 ∧ W.cell? ⟨b, 6, none⟩ = some v6 ∧ ∀ o, W.frozen? ⟨b, o, none⟩ = false
theorem Box7.new (W : World) (v0 v1 v2 v3 v4 v5 v6 : Value) (t : TypeId) : Box7 (W.alloc (.cells #[v0, v1, v2, v3, v4, v5, v6] t)) W.heap.size v0 v1 v2 v3 v4 v5 v6 := by
  refine ⟨by simp, ?_, ?_, ?_, ?_, ?_, ?_, ?_, ?_⟩
  all_goals first | (intro o; simp [go_sem]; done) | simp [go_sem]
theorem Box7.under {W W' : World} {b n : Nat} {v0 v1 v2 v3 v4 v5 v6 : Value} (h : Box7 W b v0 v1 v2 v3 v4 v5 v6) (g : Below n W W') (hb : b < n) : Box7 W' b v0 v1 v2 v3 v4 v5 v6 := by
  obtain ⟨z, c0, c1, c2, c3, c4, c5, c6, cf⟩ := h
  exact ⟨Nat.lt_of_lt_of_le z g.size, (g.cell hb).trans c0, (g.cell hb).trans c1, (g.cell hb).trans c2, (g.cell hb).trans c3, (g.cell hb).trans c4, (g.cell hb).trans c5, (g.cell hb).trans c6, fun o => (g.frozen hb).trans (cf o)⟩
theorem ball {w a : World} (h : Below w.heap.size w a) (o : Obj) : Below w.heap.size w (a.alloc o) := h.alloc h.size o
theorem Box7.below {W W' : World} {b : Nat} {v0 v1 v2 v3 v4 v5 v6 : Value} (h : Box7 W b v0 v1 v2 v3 v4 v5 v6) (g : Below W.heap.size W W') : Box7 W' b v0 v1 v2 v3 v4 v5 v6 := h.under g h.1
theorem Box7.drew {W : World} {b : Nat} {v0 v1 v2 v3 v4 v5 v6 : Value} (h : Box7 W b v0 v1 v2 v3 v4 v5 v6) : Box7 W.drew b v0 v1 v2 v3 v4 v5 v6 := h
/-- a store elsewhere -/
theorem Box7.put {W : World} {b c o : Nat} {v0 v1 v2 v3 v4 v5 v6 x : Value} (h : Box7 W b v0 v1 v2 v3 v4 v5 v6) (hc : b ≠ c) : Box7 (W.setCell ⟨c, o, none⟩ x) b v0 v1 v2 v3 v4 v5 v6 := by
  obtain ⟨z, c0, c1, c2, c3, c4, c5, c6, cf⟩ := h
  have far : ∀ k, (W.setCell ⟨c, o, none⟩ x).cell? ⟨b, k, none⟩ = W.cell? ⟨b, k, none⟩ := fun k => World.cell?_setCell_other W _ _ _ (by intro e; cases e; exact hc rfl)
  exact ⟨by simpa using z, (far 0).trans c0, (far 1).trans c1, (far 2).trans c2, (far 3).trans c3, (far 4).trans c4, (far 5).trans c5, (far 6).trans c6, fun k => by rw [World.frozen?_setCell]; exact cf k⟩
theorem cell_same {W : World} {b k : Nat} {u x : Value} (h : W.cell? ⟨b, k, none⟩ = some u) : (W.setCell ⟨b, k, none⟩ x).cell? ⟨b, k, none⟩ = some x := World.cell?_setCell_same _ _ _ h
theorem cell_far {W : World} {b j k : Nat} {u x : Value} (hn : j ≠ k) (h : W.cell? ⟨b, k, none⟩ = some u) : (W.setCell ⟨b, j, none⟩ x).cell? ⟨b, k, none⟩ = some u := (World.cell?_setCell_other _ _ _ _ (by intro e; cases e; exact hn rfl)).trans h
/-- a tag and what stands behind it, written into a frame's box -/
theorem Box7.tagged {W : World} {b : Nat} {v0 v1 v2 v3 v4 v5 v6 x2 x3 x4 x5 x6 : Value} (h : Box7 W b v0 v1 v2 v3 v4 v5 v6) :
    Box7 (((((W.setCell ⟨b, 2, none⟩ x2).setCell ⟨b, 4, none⟩ x4).setCell ⟨b, 3, none⟩ x3).setCell ⟨b, 5, none⟩ x5).setCell ⟨b, 6, none⟩ x6) b v0 v1 x2 x3 x4 x5 x6 := by
  obtain ⟨z, c0, c1, c2, c3, c4, c5, c6, cf⟩ := h
  refine ⟨by simpa using z, ?_, ?_, ?_, ?_, ?_, ?_, ?_, fun k => by simpa using cf k⟩
  · exact cell_far (by decide) (cell_far (by decide) (cell_far (by decide) (cell_far (by decide) (cell_far (by decide) c0))))
  · exact cell_far (by decide) (cell_far (by decide) (cell_far (by decide) (cell_far (by decide) (cell_far (by decide) c1))))
  · exact cell_far (by decide) (cell_far (by decide) (cell_far (by decide) (cell_far (by decide) (cell_same c2))))
  · exact cell_far (by decide) (cell_far (by decide) (cell_same (cell_far (by decide) (cell_far (by decide) c3))))
  · exact cell_far (by decide) (cell_far (by decide) (cell_far (by decide) (cell_same (cell_far (by decide) c4))))
  · exact cell_far (by decide) (cell_same (cell_far (by decide) (cell_far (by decide) (cell_far (by decide) c5))))
  · exact cell_same (cell_far (by decide) (cell_far (by decide) (cell_far (by decide) (cell_far (by decide) c6))))
/-- does a number lie within bounds? -/
def Withins (n m : Int) (b : Bool) : Prop :=
  ∀ w : World, Calls Tryz.prog 145 #[.int .i64 n, .int .i64 m] w fun e w' => e = .returned (.bool b) ∧ w = w'
theorem Withins.to {n m : Int} {b : Bool} (h : Withins n m b) (w : World) : Calls Tryz.prog 145 #[.int .i64 n, .int .i64 m] w fun e w' => e = .returned (.bool b) ∧ w = w' := h w
theorem withins_yes (n m : Int) (h0 : 0 ≤ n) (h1 : n ≤ m) : Withins n m true := by
  intro w
  have d0 := decide_eq_true h0
  have d1 := decide_eq_true h1
  clear h0 h1
  go_enter Tryz.func145, Tryz.ntmps145
  go_wp2
  go_ret
  exact ⟨rfl, rfl⟩
theorem withins_no (n m : Int) (h : n < 0 ∨ m < n) : Withins n m false := by
  intro w
  have hc : decide (0 ≤ n) = false ∨ (decide (0 ≤ n) = true ∧ decide (n ≤ m) = false) := by
    simp only [decide_eq_true_eq, decide_eq_false_iff_not]; omega
  clear h
  rcases hc with d0 | ⟨d0, d1⟩
  all_goals
    go_enter Tryz.func145, Tryz.ntmps145
    go_wp2
    go_ret
    exact ⟨rfl, rfl⟩
/-- may a frame be? -/
def Good3 (dst src : ByteArray) (tg : Bool) (vl pr ty : Int) (data : ByteArray) : Prop :=
  dst.size = 6 ∧ src.size = 6 ∧ data.size ≤ 2000 ∧ 0 ≤ vl ∧ vl ≤ 4094 ∧ 0 ≤ pr ∧ pr ≤ 7 ∧ 0 ≤ ty ∧ ty ≤ 65535 ∧ (tg = true ∨ (vl = 0 ∧ pr = 0 ∧ ty ≠ 33024))
theorem wn_eq (n m : Int) (b : Bool) (h : b = decide (0 ≤ n ∧ n ≤ m)) : Withins n m b := by
  subst h
  by_cases c : 0 ≤ n ∧ n ≤ m
  · rw [decide_eq_true c]; exact withins_yes n m c.1 c.2
  · rw [decide_eq_false c]; exact withins_no n m (by omega)
set_option maxRecDepth 100000 in
set_option maxHeartbeats 4000000 in
theorem fine_is (dst src data : ByteArray) (tg : Bool) (vl pr ty : Int) (r : Bool) (hz : data.size ≤ 140737488351232) (hr : r = true ↔ Good3 dst src tg vl pr ty data) (w : World) :
    Calls Tryz.prog 67 #[.agg #[.string dst, .string src, .bool tg, .int .i64 vl, .int .i64 pr, .int .i64 ty, .string data]] w fun e w' => e = .returned (.bool r) ∧ Below w.heap.size w w' := by
  obtain ⟨b1, e1⟩ : ∃ b, b = ((dst.size : Int) != 6) := ⟨_, rfl⟩
  obtain ⟨b2, e2⟩ : ∃ b, b = ((src.size : Int) != 6) := ⟨_, rfl⟩
  obtain ⟨b3, e3⟩ : ∃ b, b = decide (2000 < (data.size : Int)) := ⟨_, rfl⟩
  obtain ⟨b4, e4⟩ : ∃ b, b = decide (0 ≤ vl ∧ vl ≤ 4094) := ⟨_, rfl⟩
  obtain ⟨b5, e5⟩ : ∃ b, b = decide (0 ≤ pr ∧ pr ≤ 7) := ⟨_, rfl⟩
  obtain ⟨b6, e6⟩ : ∃ b, b = decide (0 ≤ ty ∧ ty ≤ 65535) := ⟨_, rfl⟩
  obtain ⟨b7, e7⟩ : ∃ b, b = (vl == 0) := ⟨_, rfl⟩
  obtain ⟨b8, e8⟩ : ∃ b, b = (pr == 0) := ⟨_, rfl⟩
  obtain ⟨b9, e9⟩ : ∃ b, b = (ty != 33024) := ⟨_, rfl⟩
  have hw4 := wn_eq vl 4094 b4 e4
  have hw5 := wn_eq pr 7 b5 e5
  have hw6 := wn_eq ty 65535 b6 e6
  have hR : r = (!b1 && (!b2 && (!b3 && (b4 && (b5 && (b6 && (tg || (b7 && (b8 && b9))))))))) := by
    rw [Bool.eq_iff_iff, hr, e1, e2, e3, e4, e5, e6, e7, e8, e9]
    cases tg
    all_goals
      simp only [Good3, Bool.and_eq_true, Bool.or_eq_true, Bool.not_eq_true', decide_eq_true_eq, decide_eq_false_iff_not, beq_iff_eq, bne_iff_ne, bne_eq_false_iff_eq, ne_eq, Bool.false_eq_true, false_or, true_or, and_true]
      omega
  have HR := Lib.hid hR
  have f1 := e1.symm
  have f2 := e2.symm
  have f3 := e3.symm
  have f7 := e7.symm
  have f8 := e8.symm
  have f9 := e9.symm
  clear hR hr hz e1 e2 e3 e4 e5 e6 e7 e8 e9
  have fin : ∀ v, Hid (v = r → Ending.returned (.bool v) = .returned (.bool r)) := fun v h => by rw [h]
  have HF := Lib.hid fin
  clear fin
  rcases b1 with _ | _
  · rcases b2 with _ | _
    · rcases b3 with _ | _
      · rcases b4 with _ | _
        · go_enter Tryz.func67, Tryz.ntmps67
          go_wp2_with (first | ((with_reducible refine (hw4.to _).mono ?_); rintro e w1 ⟨rfl, rfl⟩) | ((with_reducible refine (hw5.to _).mono ?_); rintro e w1 ⟨rfl, rfl⟩) | ((with_reducible refine (hw6.to _).mono ?_); rintro e w1 ⟨rfl, rfl⟩))
          go_ret
          exact ⟨by rw [HR.out]; rfl, bbox1 _ _⟩
        · rcases b5 with _ | _
          · go_enter Tryz.func67, Tryz.ntmps67
            go_wp2_with (first | ((with_reducible refine (hw4.to _).mono ?_); rintro e w1 ⟨rfl, rfl⟩) | ((with_reducible refine (hw5.to _).mono ?_); rintro e w1 ⟨rfl, rfl⟩) | ((with_reducible refine (hw6.to _).mono ?_); rintro e w1 ⟨rfl, rfl⟩))
            go_ret
            exact ⟨by rw [HR.out]; rfl, bbox1 _ _⟩
          · rcases b6 with _ | _
            · go_enter Tryz.func67, Tryz.ntmps67
              go_wp2_with (first | ((with_reducible refine (hw4.to _).mono ?_); rintro e w1 ⟨rfl, rfl⟩) | ((with_reducible refine (hw5.to _).mono ?_); rintro e w1 ⟨rfl, rfl⟩) | ((with_reducible refine (hw6.to _).mono ?_); rintro e w1 ⟨rfl, rfl⟩))
              go_ret
              exact ⟨by rw [HR.out]; rfl, bbox1 _ _⟩
            · rcases tg with _ | _ <;> rcases b7 with _ | _ <;> rcases b8 with _ | _
              all_goals
                go_enter Tryz.func67, Tryz.ntmps67
                go_wp2_with (first | ((with_reducible refine (hw4.to _).mono ?_); rintro e w1 ⟨rfl, rfl⟩) | ((with_reducible refine (hw5.to _).mono ?_); rintro e w1 ⟨rfl, rfl⟩) | ((with_reducible refine (hw6.to _).mono ?_); rintro e w1 ⟨rfl, rfl⟩))
                go_ret
                exact ⟨by rw [HR.out]; rfl, bbox1 _ _⟩
      · go_enter Tryz.func67, Tryz.ntmps67
        go_wp2
        go_ret
        exact ⟨by rw [HR.out]; rfl, bbox1 _ _⟩
    · go_enter Tryz.func67, Tryz.ntmps67
      go_wp2
      go_ret
      exact ⟨by rw [HR.out]; rfl, bbox1 _ _⟩
  · go_enter Tryz.func67, Tryz.ntmps67
    go_wp2
    go_ret
    exact ⟨by rw [HR.out]; rfl, bbox1 _ _⟩
end Go.Proofs.YticdmepplfgdiaaGreatDoor
end
section
namespace Go.Proofs.YticdmepplfgdiaaGreatDoor
open Go.RowKit
theorem slice_from (s : ByteArray) (a : Nat) (h : a ≤ s.size) (x : Int) (hx : x = a) (w : World) : (Instr.slice 9 (.string s) (some (.int .i64 x)) none none).run Tryz.prog w = .ok (.string (s.extract a s.size)) w := by
  subst hx
  rw [run_slice_string_from_if (P := Tryz.prog) w 9 s .i64 (a : Int) Tryz.underlying9, if_pos ⟨by omega, by omega⟩]
  rfl
theorem slice_to (s : ByteArray) (a : Nat) (h : a ≤ s.size) (x : Int) (hx : x = a) (w : World) : (Instr.slice 9 (.string s) none (some (.int .i64 x)) none).run Tryz.prog w = .ok (.string (s.extract 0 a)) w := by
  subst hx
  rw [run_slice_string_to_if (P := Tryz.prog) w 9 s .i64 (a : Int) Tryz.underlying9, if_pos ⟨by omega, by omega⟩]
  rfl
theorem slice_mid (s : ByteArray) (a b : Nat) (h1 : a ≤ b) (h2 : b ≤ s.size) (x y : Int) (hx : x = a) (hy : y = b) (w : World) : (Instr.slice 9 (.string s) (some (.int .i64 x)) (some (.int .i64 y)) none).run Tryz.prog w = .ok (.string (s.extract a b)) w := by
  subst hx hy
  rw [run_slice_string_if (P := Tryz.prog) (w := w) 9 s .i64 .i64 (a : Int) (b : Int) Tryz.underlying9, if_pos ⟨by omega, by omega⟩, if_pos ⟨by omega, by omega⟩]
  rfl
def fr (dst src : ByteArray) (tg : Bool) (vl pr ty : Int) (data : ByteArray) : Value := .agg #[.string dst, .string src, .bool tg, .int .i64 vl, .int .i64 pr, .int .i64 ty, .string data]
def zeroF : Value := .agg #[.string ⟨#[]⟩, .string ⟨#[]⟩, .bool false, .int .i64 0, .int .i64 0, .int .i64 0, .string ⟨#[]⟩]
/-- the number that two bytes are, from a place on -/
def at2 (s : ByteArray) (a : Nat) : Nat := Pl.num ((s.data.toList.drop a).take 2)
theorem at2_lt (s : ByteArray) (a : Nat) : at2 s a < 65536 := by
  have h := Pl.num_lt ((s.data.toList.drop a).take 2)
  have h2 : 256 ^ ((s.data.toList.drop a).take 2).length ≤ 256 ^ 2 := Nat.pow_le_pow_right (by decide) (by rw [List.length_take]; omega)
  unfold at2; omega
theorem at4_is (s : ByteArray) (a : Nat) (h : a + 4 ≤ s.size) : Pl.num ((s.data.toList.drop a).take 4) = at2 s a * 65536 + at2 s (a + 2) := by
  have e := size_toList s
  have hs : (s.data.toList.drop a).take 4 = (s.data.toList.drop a).take 2 ++ (s.data.toList.drop (a + 2)).take 2 := by
    rw [show 4 = 2 + 2 from rfl, List.take_add, List.drop_drop]
  rw [hs, Pl.num_append, List.length_take, List.length_drop, Nat.min_eq_left (by omega)]
  rfl
/-- what comes of a frame's bytes, fourteen at least -/
def FrCase (s dst src : ByteArray) (v : Value) (e : Int) : Prop :=
  (at2 s 12 ≠ 33024 ∧ s.size ≤ 2014 ∧ ∃ data, s.extract 14 s.size = data ∧ v = fr dst src false 0 0 (at2 s 12 : Nat) data ∧ e = 0) ∨
  (at2 s 12 ≠ 33024 ∧ 2014 < s.size ∧ v = zeroF ∧ e = 3) ∨
  (at2 s 12 = 33024 ∧ s.size < 18 ∧ v = zeroF ∧ e = 2) ∨
  (at2 s 12 = 33024 ∧ 18 ≤ s.size ∧ (at2 s 14 / 4096 % 2 = 1 ∨ at2 s 14 % 4096 = 4095) ∧ v = zeroF ∧ e = 3) ∨
  (at2 s 12 = 33024 ∧ 18 ≤ s.size ∧ at2 s 14 / 4096 % 2 = 0 ∧ at2 s 14 % 4096 ≠ 4095 ∧ 2018 < s.size ∧ v = zeroF ∧ e = 3) ∨
  (at2 s 12 = 33024 ∧ 18 ≤ s.size ∧ at2 s 14 / 4096 % 2 = 0 ∧ at2 s 14 % 4096 ≠ 4095 ∧ s.size ≤ 2018 ∧ ∃ data, s.extract 18 s.size = data ∧ v = fr dst src true (at2 s 14 % 4096 : Nat) (at2 s 14 / 8192 : Nat) (at2 s 16 : Nat) data ∧ e = 0)
theorem and_4095 (t : Nat) (h : t < 65536) : bits BinOp.and IntKind.i64 (t : Int) 4095 = ((t % 4096 : Nat) : Int) := by
  rw [show (4095 : Int) = ((4095 : Nat) : Int) from rfl, i64_and_nat _ _ (by omega) (by omega)]
  congr 1
  exact Nat.and_two_pow_sub_one_eq_mod t 12
theorem and_65535 (t : Nat) (h : t < 4294967296) : bits BinOp.and IntKind.i64 (t : Int) 65535 = ((t % 65536 : Nat) : Int) := by
  rw [show (65535 : Int) = ((65535 : Nat) : Int) from rfl, i64_and_nat _ _ (by omega) (by omega)]
  congr 1
  exact Nat.and_two_pow_sub_one_eq_mod t 16
theorem and_one (t : Nat) (h : t < 65536) : bits BinOp.and IntKind.i64 (t : Int) 1 = ((t % 2 : Nat) : Int) := by
  rw [show (1 : Int) = ((1 : Nat) : Int) from rfl, i64_and_nat _ _ (by omega) (by omega), Nat.and_one_is_mod]
set_option maxRecDepth 100000 in
set_option maxHeartbeats 4000000 in
theorem ethdec_in (s dst src : ByteArray) (v : Value) (x : Int) (hs : 14 ≤ s.size) (hl : s.size ≤ 281474976710656) (e1 : s.extract 0 6 = dst) (e2 : s.extract 6 12 = src) (hcase : FrCase s dst src v x) (w : World) :
    Calls Tryz.prog 16 #[.string s] w fun e w' => e = .returned (.tuple #[v, .int .i64 x]) ∧ Below w.heap.size w w' := by
  have hG : Gets s 12 2 (at2 s 12 : Nat) 0 := gets_ok s 12 2 (by omega) (by decide) (by decide) (by omega)
  have k1 := slice_to s 6 (by omega) 6 rfl
  have k2 := slice_mid s 6 12 (by omega) (by omega) 6 12 rfl rfl
  rw [e1] at k1
  rw [e2] at k2
  have HC := Lib.hid hcase
  have hK := at2_lt s 12
  obtain ⟨kd, hkd⟩ : ∃ k, k = at2 s 12 := ⟨_, rfl⟩
  have HKD := Lib.hid hkd
  rw [← hkd] at hG hK
  clear e1 e2 hcase hkd
  go_enter Tryz.func16, Tryz.ntmps16
  go_upto_region 4 with ((with_reducible refine (hG.to _).mono ?_); rintro e w1 ⟨rfl, g1⟩; have B1 := (Box7.new _ _ _ _ _ _ _ _ _).below g1)
  go_region_held3 (fun _ => True) (trivial) (fail)
  have F2 : Box7 ((w1.alloc (.cells #[.string dst, .string src, .bool false, .int .i64 0, .int .i64 0, .int .i64 0, .string ⟨#[]⟩] 47)).drew) w1.heap.size (.string dst) (.string src) (.bool false) (.int .i64 0) (.int .i64 0) (.int .i64 0) (.string ⟨#[]⟩) := Box7.new w1 _ _ _ _ _ _ _ _
  have R2 : Box7 ((w1.alloc (.cells #[.string dst, .string src, .bool false, .int .i64 0, .int .i64 0, .int .i64 0, .string ⟨#[]⟩] 47)).drew) w.heap.size _ _ _ _ _ _ _ := B1.below (Below.drew (bbox1 w1 _))
  have b2 : Below w.heap.size w ((w1.alloc (.cells #[.string dst, .string src, .bool false, .int .i64 0, .int .i64 0, .int .i64 0, .string ⟨#[]⟩] 47)).drew) := Below.drew (ball (bstep (bbox1 _ _) g1) _)
  have hlt : w.heap.size < w1.heap.size := B1.1
  generalize ((w1.alloc (.cells #[.string dst, .string src, .bool false, .int .i64 0, .int .i64 0, .int .i64 0, .string ⟨#[]⟩] 47)).drew) = wz at F2 R2 b2 ⊢
  have F2q := F2
  have R2q := R2
  obtain ⟨y2, p0, p1, p2, p3, p4, p5, p6, pf⟩ := F2q
  obtain ⟨y3, r0, r1, r2, r3, r4, r5, r6, rf⟩ := R2q
  have hc := HC.out
  unfold FrCase at hc
  rw [← HKD.out] at hc
  clear HC
  rcases hc with ⟨hk, hz, data, hd, rfl, rfl⟩ | ⟨hk, hz, rfl, rfl⟩ | ⟨hk, hz, rfl, rfl⟩ | ⟨hk, hz, hb, rfl, rfl⟩ | ⟨hk, hz, hb1, hb2, hz2, rfl, rfl⟩ | ⟨hk, hz, hb1, hb2, hz2, data, hd, rfl, rfl⟩
  · -- no tag
    have t1 : ((kd : Int) == 33024) = false := by rw [beq_eq_false_iff_ne]; omega
    have k3 := slice_from s 14 (by omega) 14 rfl
    rw [hd] at k3
    have dz : data.size + 14 = s.size := by rw [← hd, ByteArray.size_extract]; omega
    have t2 : decide (2000 < (data.size : Int)) = false := decide_eq_false (by omega)
    clear hk hd dz HKD
    go_wp2_with fail
    go_region_held3 (fun _ => True) (trivial) (fail)
    go_wp2
    exact bodyPost_ret (v := .tuple #[fr dst src false 0 0 kd data, .int .i64 0]) (by simp [fr, results, Tryz.results16, go_sem, r0, r1, r2, r3, r4, r5, r6]) rfl ⟨rfl, by refine Below.drew ?_; (repeat (with_reducible refine Below.setCell ?_ (by simp; try omega) _)); exact b2⟩
  · -- no tag, too much
    have t1 : ((kd : Int) == 33024) = false := by rw [beq_eq_false_iff_ne]; omega
    obtain ⟨data, hd⟩ : ∃ d, s.extract 14 s.size = d := ⟨_, rfl⟩
    have k3 := slice_from s 14 (by omega) 14 rfl
    rw [hd] at k3
    have dz : data.size + 14 = s.size := by rw [← hd, ByteArray.size_extract]; omega
    have t2 : decide (2000 < (data.size : Int)) = true := decide_eq_true (by omega)
    clear hk hd dz HKD
    go_wp2_with fail
    go_region_held3 (fun _ => True) (trivial) (fail)
    go_wp2
    exact bodyPost_ret (v := .tuple #[zeroF, .int .i64 3]) (by simp [zeroF, results, Tryz.results16, go_sem, r0, r1, r2, r3, r4, r5, r6]) rfl ⟨rfl, by refine Below.drew ?_; (repeat (with_reducible refine Below.setCell ?_ (by simp; try omega) _)); exact b2⟩
  · -- a tag that is cut off
    have t1 : ((kd : Int) == 33024) = true := by rw [beq_iff_eq]; omega
    have hG2 : Gets s 14 4 0 2 := gets_cut s 14 4 (by omega) (by decide) (by decide) (by decide) (by omega)
    clear hk HKD
    go_wp2_with ((with_reducible refine (hG2.to _).mono ?_); rintro e w4 ⟨rfl, g4⟩; obtain ⟨y4, u0, u1, u2, u3, u4, u5, u6, uf⟩ := R2.below g4)
    exact bodyPost_ret (v := .tuple #[zeroF, .int .i64 2]) (by simp [zeroF, results, Tryz.results16, go_sem, u0, u1, u2, u3, u4, u5, u6]) rfl ⟨rfl, by (repeat (with_reducible refine Below.setCell ?_ (by simp; try omega) _)); exact bstep b2 g4⟩
  · -- a tag that may not be
    have t1 : ((kd : Int) == 33024) = true := by rw [beq_iff_eq]; omega
    have hT := at2_lt s 14
    have hY := at2_lt s 16
    have h4 : Pl.num ((s.data.toList.drop 14).take 4) = at2 s 14 * 65536 + at2 s 16 := at4_is s 14 (by omega)
    obtain ⟨T, eT⟩ : ∃ T, T = at2 s 14 := ⟨_, rfl⟩
    obtain ⟨Y, eY⟩ : ∃ T, T = at2 s 16 := ⟨_, rfl⟩
    rw [← eT, ← eY] at h4
    rw [← eT] at hT hb
    rw [← eY] at hY
    have hG2 : Gets s 14 4 (T * 65536 + Y : Nat) 0 := by
      have h := gets_ok s 14 4 (by omega) (by decide) (by decide) (by omega)
      rw [h4] at h; exact h
    obtain ⟨M, eM⟩ : ∃ M, M = T * 65536 + Y := ⟨_, rfl⟩
    rw [← eM] at hG2
    have q1 : (M : Int) / 65536 = (T : Int) := by omega
    have q2 := and_4095 T hT
    have q3 : bits BinOp.and IntKind.i64 ((T : Int) / 4096) 1 = ((T / 4096 % 2 : Nat) : Int) := by
      rw [show (T : Int) / 4096 = ((T / 4096 : Nat) : Int) from by omega]; exact and_one _ (by omega)
    obtain ⟨A, eA⟩ : ∃ A, A = T % 4096 := ⟨_, rfl⟩
    obtain ⟨C, eC⟩ : ∃ A, A = T / 4096 % 2 := ⟨_, rfl⟩
    rw [← eA] at q2
    rw [← eC] at q3
    have hb' : ((C : Int) == 1) = true ∨ (((C : Int) == 1) = false ∧ ((A : Int) == 4095) = true) := by
      rw [beq_iff_eq, beq_iff_eq, beq_eq_false_iff_ne]; omega
    have hM : M ≤ 4294967295 := by omega
    clear hk HKD hb eT eY eM eA eC h4
    rcases hb' with a1 | ⟨a1, a2⟩
    all_goals
      go_wp2_with ((with_reducible refine (hG2.to _).mono ?_); rintro e w4 ⟨rfl, g4⟩; obtain ⟨y4, u0, u1, u2, u3, u4, u5, u6, uf⟩ := R2.below g4; obtain ⟨y5, v0, v1, v2, v3, v4, v5, v6, vf⟩ := F2.below g4)
      exact bodyPost_ret (v := .tuple #[zeroF, .int .i64 3]) (by simp [zeroF, results, Tryz.results16, go_sem, u0, u1, u2, u3, u4, u5, u6]) rfl ⟨rfl, by (repeat (with_reducible refine Below.setCell ?_ (by simp; try omega) _)); exact bstep b2 g4⟩
  · -- a tag, too much behind it
    have t1 : ((kd : Int) == 33024) = true := by rw [beq_iff_eq]; omega
    have hT := at2_lt s 14
    have hY := at2_lt s 16
    have h4 : Pl.num ((s.data.toList.drop 14).take 4) = at2 s 14 * 65536 + at2 s 16 := at4_is s 14 (by omega)
    obtain ⟨T, eT⟩ : ∃ T, T = at2 s 14 := ⟨_, rfl⟩
    obtain ⟨Y, eY⟩ : ∃ T, T = at2 s 16 := ⟨_, rfl⟩
    rw [← eT, ← eY] at h4
    rw [← eT] at hT hb1 hb2
    rw [← eY] at hY
    have hG2 : Gets s 14 4 (T * 65536 + Y : Nat) 0 := by
      have h := gets_ok s 14 4 (by omega) (by decide) (by decide) (by omega)
      rw [h4] at h; exact h
    obtain ⟨M, eM⟩ : ∃ M, M = T * 65536 + Y := ⟨_, rfl⟩
    rw [← eM] at hG2
    have q1 : (M : Int) / 65536 = (T : Int) := by omega
    have q2 := and_4095 T hT
    have q3 : bits BinOp.and IntKind.i64 ((T : Int) / 4096) 1 = ((T / 4096 % 2 : Nat) : Int) := by
      rw [show (T : Int) / 4096 = ((T / 4096 : Nat) : Int) from by omega]; exact and_one _ (by omega)
    have q5 : bits BinOp.and IntKind.i64 (M : Int) 65535 = (Y : Int) := by
      rw [and_65535 M (by omega), eM]; omega
    obtain ⟨A, eA⟩ : ∃ A, A = T % 4096 := ⟨_, rfl⟩
    obtain ⟨C, eC⟩ : ∃ A, A = T / 4096 % 2 := ⟨_, rfl⟩
    obtain ⟨D, eD⟩ : ∃ A, A = T / 8192 := ⟨_, rfl⟩
    have q4 : (T : Int) / 8192 = (D : Int) := by omega
    rw [← eA] at q2
    rw [← eC] at q3
    have a1 : ((C : Int) == 1) = false := by rw [beq_eq_false_iff_ne]; omega
    have a2 : ((A : Int) == 4095) = false := by rw [beq_eq_false_iff_ne]; omega
    have hM : M ≤ 4294967295 := by omega
    obtain ⟨data, hd⟩ : ∃ d, s.extract 18 s.size = d := ⟨_, rfl⟩
    have k3 := slice_from s 18 (by omega) 18 rfl
    rw [hd] at k3
    have dz : data.size + 18 = s.size := by rw [← hd, ByteArray.size_extract]; omega
    have t2 : decide (2000 < (data.size : Int)) = true := decide_eq_true (by omega)
    clear hk HKD hb1 hb2 eT eY eM eA eC eD h4 hd dz
    go_wp2_with ((with_reducible refine (hG2.to _).mono ?_); rintro e w4 ⟨rfl, g4⟩; obtain ⟨y4, u0, u1, u2, u3, u4, u5, u6, uf⟩ := R2.below g4; obtain ⟨y5, v0, v1, v2, v3, v4, v5, v6, vf⟩ := F2.below g4)
    go_region_held3 (fun _ => True) (trivial) (fail)
    have F9 : Box7 ((((((w4.setCell ⟨w1.heap.size, 2, none⟩ (.bool true)).setCell ⟨w1.heap.size, 4, none⟩ (.int .i64 (D : Int))).setCell ⟨w1.heap.size, 3, none⟩ (.int .i64 (A : Int))).setCell ⟨w1.heap.size, 5, none⟩ (.int .i64 (Y : Int))).setCell ⟨w1.heap.size, 6, none⟩ (.string data)).drew) w1.heap.size _ _ _ _ _ _ _ := (F2.below g4).tagged.drew
    have R9 : Box7 ((((((w4.setCell ⟨w1.heap.size, 2, none⟩ (.bool true)).setCell ⟨w1.heap.size, 4, none⟩ (.int .i64 (D : Int))).setCell ⟨w1.heap.size, 3, none⟩ (.int .i64 (A : Int))).setCell ⟨w1.heap.size, 5, none⟩ (.int .i64 (Y : Int))).setCell ⟨w1.heap.size, 6, none⟩ (.string data)).drew) w.heap.size _ _ _ _ _ _ _ := ((((((R2.below g4).put (by omega)).put (by omega)).put (by omega)).put (by omega)).put (by omega)).drew
    have b9 : Below w.heap.size w ((((((w4.setCell ⟨w1.heap.size, 2, none⟩ (.bool true)).setCell ⟨w1.heap.size, 4, none⟩ (.int .i64 (D : Int))).setCell ⟨w1.heap.size, 3, none⟩ (.int .i64 (A : Int))).setCell ⟨w1.heap.size, 5, none⟩ (.int .i64 (Y : Int))).setCell ⟨w1.heap.size, 6, none⟩ (.string data)).drew) := Below.drew ((((((bstep b2 g4).setCell (by simp; omega) _).setCell (by simp; omega) _).setCell (by simp; omega) _).setCell (by simp; omega) _).setCell (by simp; omega) _)
    generalize ((((((w4.setCell ⟨w1.heap.size, 2, none⟩ (.bool true)).setCell ⟨w1.heap.size, 4, none⟩ (.int .i64 (D : Int))).setCell ⟨w1.heap.size, 3, none⟩ (.int .i64 (A : Int))).setCell ⟨w1.heap.size, 5, none⟩ (.int .i64 (Y : Int))).setCell ⟨w1.heap.size, 6, none⟩ (.string data)).drew) = w9 at F9 R9 b9 ⊢
    obtain ⟨y8, s0, s1, s2, s3, s4, s5, s6, sf⟩ := F9
    obtain ⟨y9, z0, z1, z2, z3, z4, z5, z6, zf⟩ := R9
    clear u0 u1 u2 u3 u4 u5 u6 uf v0 v1 v2 v3 v4 v5 v6 vf
    go_wp2
    exact bodyPost_ret (v := .tuple #[zeroF, .int .i64 3]) (by simp [zeroF, results, Tryz.results16, go_sem, z0, z1, z2, z3, z4, z5, z6]) rfl ⟨rfl, by (repeat (with_reducible refine Below.setCell ?_ (by simp; try omega) _)); exact b9⟩
  · -- a tag
    have hY2 : at2 s 16 < 65536 := at2_lt s 16
    have t1 : ((kd : Int) == 33024) = true := by rw [beq_iff_eq]; omega
    have hT := at2_lt s 14
    have hY := at2_lt s 16
    have h4 : Pl.num ((s.data.toList.drop 14).take 4) = at2 s 14 * 65536 + at2 s 16 := at4_is s 14 (by omega)
    obtain ⟨T, eT⟩ : ∃ T, T = at2 s 14 := ⟨_, rfl⟩
    obtain ⟨Y, eY⟩ : ∃ T, T = at2 s 16 := ⟨_, rfl⟩
    rw [← eT, ← eY] at h4
    rw [← eT] at hT hb1 hb2
    rw [← eY] at hY
    have hG2 : Gets s 14 4 (T * 65536 + Y : Nat) 0 := by
      have h := gets_ok s 14 4 (by omega) (by decide) (by decide) (by omega)
      rw [h4] at h; exact h
    obtain ⟨M, eM⟩ : ∃ M, M = T * 65536 + Y := ⟨_, rfl⟩
    rw [← eM] at hG2
    have q1 : (M : Int) / 65536 = (T : Int) := by omega
    have q2 := and_4095 T hT
    have q3 : bits BinOp.and IntKind.i64 ((T : Int) / 4096) 1 = ((T / 4096 % 2 : Nat) : Int) := by
      rw [show (T : Int) / 4096 = ((T / 4096 : Nat) : Int) from by omega]; exact and_one _ (by omega)
    have q5 : bits BinOp.and IntKind.i64 (M : Int) 65535 = (Y : Int) := by
      rw [and_65535 M (by omega), eM]; omega
    obtain ⟨A, eA⟩ : ∃ A, A = T % 4096 := ⟨_, rfl⟩
    obtain ⟨C, eC⟩ : ∃ A, A = T / 4096 % 2 := ⟨_, rfl⟩
    obtain ⟨D, eD⟩ : ∃ A, A = T / 8192 := ⟨_, rfl⟩
    have q4 : (T : Int) / 8192 = (D : Int) := by omega
    rw [← eA] at q2
    rw [← eC] at q3
    have a1 : ((C : Int) == 1) = false := by rw [beq_eq_false_iff_ne]; omega
    have a2 : ((A : Int) == 4095) = false := by rw [beq_eq_false_iff_ne]; omega
    have hM : M ≤ 4294967295 := by omega
    have k3 := slice_from s 18 (by omega) 18 rfl
    rw [hd] at k3
    have dz : data.size + 18 = s.size := by rw [← hd, ByteArray.size_extract]; omega
    have t2 : decide (2000 < (data.size : Int)) = false := decide_eq_false (by omega)
    have hv : fr dst src true (T % 4096 : Nat) (T / 8192 : Nat) (Y : Nat) data = fr dst src true A D Y data := by rw [eA, eD]
    have hvv : fr dst src true (at2 s 14 % 4096 : Nat) (at2 s 14 / 8192 : Nat) (at2 s 16 : Nat) data = fr dst src true A D Y data := by rw [← eT, ← eY]; exact hv
    have HV := Lib.hid hvv
    clear hk HKD hb1 hb2 eT eY eM eA eC eD h4 hd dz hv hvv hY2
    go_wp2_with ((with_reducible refine (hG2.to _).mono ?_); rintro e w4 ⟨rfl, g4⟩; obtain ⟨y4, u0, u1, u2, u3, u4, u5, u6, uf⟩ := R2.below g4; obtain ⟨y5, v0, v1, v2, v3, v4, v5, v6, vf⟩ := F2.below g4)
    go_region_held3 (fun _ => True) (trivial) (fail)
    have F9 : Box7 ((((((w4.setCell ⟨w1.heap.size, 2, none⟩ (.bool true)).setCell ⟨w1.heap.size, 4, none⟩ (.int .i64 (D : Int))).setCell ⟨w1.heap.size, 3, none⟩ (.int .i64 (A : Int))).setCell ⟨w1.heap.size, 5, none⟩ (.int .i64 (Y : Int))).setCell ⟨w1.heap.size, 6, none⟩ (.string data)).drew) w1.heap.size _ _ _ _ _ _ _ := (F2.below g4).tagged.drew
    have R9 : Box7 ((((((w4.setCell ⟨w1.heap.size, 2, none⟩ (.bool true)).setCell ⟨w1.heap.size, 4, none⟩ (.int .i64 (D : Int))).setCell ⟨w1.heap.size, 3, none⟩ (.int .i64 (A : Int))).setCell ⟨w1.heap.size, 5, none⟩ (.int .i64 (Y : Int))).setCell ⟨w1.heap.size, 6, none⟩ (.string data)).drew) w.heap.size _ _ _ _ _ _ _ := ((((((R2.below g4).put (by omega)).put (by omega)).put (by omega)).put (by omega)).put (by omega)).drew
    have b9 : Below w.heap.size w ((((((w4.setCell ⟨w1.heap.size, 2, none⟩ (.bool true)).setCell ⟨w1.heap.size, 4, none⟩ (.int .i64 (D : Int))).setCell ⟨w1.heap.size, 3, none⟩ (.int .i64 (A : Int))).setCell ⟨w1.heap.size, 5, none⟩ (.int .i64 (Y : Int))).setCell ⟨w1.heap.size, 6, none⟩ (.string data)).drew) := Below.drew ((((((bstep b2 g4).setCell (by simp; omega) _).setCell (by simp; omega) _).setCell (by simp; omega) _).setCell (by simp; omega) _).setCell (by simp; omega) _)
    generalize ((((((w4.setCell ⟨w1.heap.size, 2, none⟩ (.bool true)).setCell ⟨w1.heap.size, 4, none⟩ (.int .i64 (D : Int))).setCell ⟨w1.heap.size, 3, none⟩ (.int .i64 (A : Int))).setCell ⟨w1.heap.size, 5, none⟩ (.int .i64 (Y : Int))).setCell ⟨w1.heap.size, 6, none⟩ (.string data)).drew) = w9 at F9 R9 b9 ⊢
    obtain ⟨y8, s0, s1, s2, s3, s4, s5, s6, sf⟩ := F9
    obtain ⟨y9, z0, z1, z2, z3, z4, z5, z6, zf⟩ := R9
    clear u0 u1 u2 u3 u4 u5 u6 uf v0 v1 v2 v3 v4 v5 v6 vf
    go_wp2
    refine bodyPost_ret (v := .tuple #[fr dst src true A D Y data, .int .i64 0]) (by simp [fr, results, Tryz.results16, go_sem, z0, z1, z2, z3, z4, z5, z6]) rfl ⟨by rw [HV.out], by (repeat (with_reducible refine Below.setCell ?_ (by simp; try omega) _)); exact b9⟩
def DecE (s : ByteArray) (v : Value) (x : Int) : Prop :=
  ∀ w : World, Calls Tryz.prog 16 #[.string s] w fun e w' => e = .returned (.tuple #[v, .int .i64 x]) ∧ Below w.heap.size w w'
theorem DecE.to {s : ByteArray} {v : Value} {x : Int} (h : DecE s v x) (w : World) : Calls Tryz.prog 16 #[.string s] w fun e w' => e = .returned (.tuple #[v, .int .i64 x]) ∧ Below w.heap.size w w' := h w
end Go.Proofs.YticdmepplfgdiaaGreatDoor
end
section
namespace Go.Proofs.YticdmepplfgdiaaGreatDoor
open Go.RowKit
set_option maxRecDepth 100000 in
set_option maxHeartbeats 1000000 in
theorem eput_any (B b : Nat) (l : List UInt8) (n : Int) (v : ByteArray) (w : World) (hP : Puts n 2 v 0) (h : Holding B b l w) (hlen : l.length + v.size ≤ 140737488355328) (hBw : B ≤ w.heap.size) :
    Calls Tryz.prog 68 #[.int .i64 n, .pointer (some ⟨b, 0, none⟩)] w fun e w' => e = .returned (.tuple #[]) ∧ Holding B b (l ++ v.data.toList) w' ∧ Below B w w' := by
  go_enter Tryz.func68, Tryz.ntmps68
  go_wp2_with (first | ((with_reducible refine (hP.to _).mono ?_); rintro e w1 ⟨rfl, g1⟩; have h1 := holding_below h g1; have hb1 := Nat.le_trans hBw g1.size) | ((with_reducible refine (holding_write B b l v _ h1 hlen hb1).mono ?_); rintro e w2 ⟨rfl, h2, g2⟩))
  go_end0
  exact ⟨rfl, h2, (g1.mono hBw).trans g2⟩
set_option maxRecDepth 100000 in
set_option maxHeartbeats 1000000 in
theorem ethenc_arg (dst src data : ByteArray) (tg : Bool) (vl pr ty : Int) (hz : data.size ≤ 140737488351232) (hnot : ¬ Good3 dst src tg vl pr ty data) (w : World) :
    Calls Tryz.prog 15 #[.agg #[.string dst, .string src, .bool tg, .int .i64 vl, .int .i64 pr, .int .i64 ty, .string data]] w fun e w' => e = .returned (.tuple #[.string ⟨#[]⟩, .int .i64 1]) ∧ Below w.heap.size w w' := by
  have hm := fun w => fine_is dst src data tg vl pr ty false hz (Iff.intro (fun h => absurd h (by decide)) (fun h => absurd h hnot)) w
  clear hnot
  go_enter Tryz.func15, Tryz.ntmps15
  go_wp2_with ((with_reducible refine (hm _).mono ?_); rintro e w1 ⟨rfl, g1⟩)
  go_ret2
  exact ⟨rfl, bstep (bbox1 _ _) g1⟩
theorem or_tci (pr vl : Nat) (hp : pr ≤ 7) (hv : vl ≤ 4094) : bits BinOp.or IntKind.i64 ((pr : Int) * 8192) (vl : Int) = (pr : Int) * 8192 + (vl : Int) := by
  rw [show ((pr : Int) * 8192) = ((pr * 8192 : Nat) : Int) from by omega, i64_or_nat _ _ (by omega) (by omega), nat_join 13 _ _ (by omega) (by omega)]
  omega
set_option maxRecDepth 100000 in
set_option maxHeartbeats 4000000 in
theorem ethenc_in (dst src data sd v1 v2 v3 : ByteArray) (tg : Bool) (vl pr ty : Nat) (hg : Good3 dst src tg vl pr ty data) (hsd : dst ++ src = sd) (z1 : v1.size = 2) (z2 : v2.size = 2) (z3 : v3.size = 2)
    (h1 : Puts 33024 2 v1 0) (h2 : Puts ((pr : Int) * 8192 + (vl : Int)) 2 v2 0) (h3 : Puts ty 2 v3 0) (w : World) :
    Calls Tryz.prog 15 #[.agg #[.string dst, .string src, .bool tg, .int .i64 vl, .int .i64 pr, .int .i64 ty, .string data]] w fun e w' =>
      e = .returned (.tuple #[.string ⟨(sd.data.toList ++ (if tg then v1.data.toList ++ v2.data.toList else []) ++ v3.data.toList ++ data.data.toList).toArray⟩, .int .i64 0]) ∧ Below w.heap.size w w' := by
  have hgq := hg
  obtain ⟨k1, k2, k3, k4, k5, k6, k7, k8, k9, k10⟩ := hgq
  have hm := fun w => fine_is dst src data tg vl pr ty true (by omega) (Iff.intro (fun _ => hg) (fun _ => rfl)) w
  have hor := or_tci pr vl (by omega) (by omega)
  have hpr : (pr : Int) ≤ 7 := k7
  have j1 := join2 dst src (by omega)
  rw [hsd] at j1
  have zs : sd.size = 12 := by rw [← hsd, size_add]; omega
  have ls := size_toList sd
  have l1 := size_toList v1
  have l2 := size_toList v2
  have l3 := size_toList v3
  have HS := Lib.hid (show sd.data.toList.length = 12 by omega)
  have H1 := Lib.hid (show v1.data.toList.length = 2 by omega)
  have H2 := Lib.hid (show v2.data.toList.length = 2 by omega)
  have H3 := Lib.hid (show v3.data.toList.length = 2 by omega)
  have HZ := Lib.hid (show sd.size = 12 ∧ v1.size = 2 ∧ v2.size = 2 ∧ v3.size = 2 ∧ data.size ≤ 2000 from ⟨zs, z1, z2, z3, k3⟩)
  clear hg hsd z1 z2 z3 zs ls l1 l2 l3 k1 k2 k3 k4 k5 k6 k8 k9 k10
  rcases tg with _ | _
  · go_enter Tryz.func15, Tryz.ntmps15
    go_wp2_with (first
      | ((with_reducible refine (hm _).mono ?_); rintro e w1 ⟨rfl, g1⟩; have F1 := (Box7.new _ _ _ _ _ _ _ _ _).below g1; obtain ⟨y1, c0, c1, c2, c3, c4, c5, c6, cf⟩ := F1)
      | ((with_reducible refine (holding_write w1.heap.size w1.heap.size [] sd _ (holding_new w1) (by have := HZ.out; simp; omega) (by simp)).mono ?_); rintro e w2 ⟨rfl, K2, g2⟩; have F2 := (((Box7.new _ _ _ _ _ _ _ _ _).below g1).below (bbox1 _ _)).under g2 y1; obtain ⟨y2, d0, d1, d2, d3, d4, d5, d6, df⟩ := F2)
      | ((with_reducible refine (eput_any w1.heap.size w1.heap.size _ _ v3 _ h3 K2 (by have := HZ.out; have := HS.out; simp; omega) (by have := g2.size; simp at this; omega)).mono ?_); rintro e w3 ⟨rfl, K3, g3⟩; have F3 := ((((Box7.new _ _ _ _ _ _ _ _ _).below g1).below (bbox1 _ _)).under g2 y1).under g3 y1; obtain ⟨y3, e0, e1, e2, e3, e4, e5, e6, ef⟩ := F3)
      | ((with_reducible refine (holding_write w1.heap.size w1.heap.size _ data _ K3 (by have := HZ.out; have := HS.out; have := H3.out; simp; omega) (by have := g2.size; have := g3.size; simp at *; omega)).mono ?_); rintro e w4 ⟨rfl, K4, g4⟩)
      | ((with_reducible refine (holding_string w1.heap.size w1.heap.size _ _ K4 (by have := g2.size; have := g3.size; have := g4.size; simp at *; omega)).mono ?_); rintro e w5 ⟨rfl, g5⟩))
    go_ret2
    refine ⟨by simp, ?_⟩
    have b1 := bstep (bbox1 _ _) g1
    exact ((((b1.alloc (by omega) _).trans (g2.mono (by omega))).trans (g3.mono (by omega))).trans (g4.mono (by omega))).trans (g5.mono (by omega))
  · go_enter Tryz.func15, Tryz.ntmps15
    go_wp2_with (first
      | ((with_reducible refine (hm _).mono ?_); rintro e w1 ⟨rfl, g1⟩; have F1 := (Box7.new _ _ _ _ _ _ _ _ _).below g1; obtain ⟨y1, c0, c1, c2, c3, c4, c5, c6, cf⟩ := F1)
      | ((with_reducible refine (holding_write w1.heap.size w1.heap.size [] sd _ (holding_new w1) (by have := HZ.out; simp; omega) (by simp)).mono ?_); rintro e w2 ⟨rfl, K2, g2⟩; have F2 := (((Box7.new _ _ _ _ _ _ _ _ _).below g1).below (bbox1 _ _)).under g2 y1; obtain ⟨y2, d0, d1, d2, d3, d4, d5, d6, df⟩ := F2)
      | ((with_reducible refine (eput_any w1.heap.size w1.heap.size _ _ v1 _ h1 K2 (by have := HZ.out; have := HS.out; simp; omega) (by have := g2.size; simp at this; omega)).mono ?_); rintro e w3 ⟨rfl, K3, g3⟩; have F3 := ((((Box7.new _ _ _ _ _ _ _ _ _).below g1).below (bbox1 _ _)).under g2 y1).under g3 y1; obtain ⟨y3, e0, e1, e2, e3, e4, e5, e6, ef⟩ := F3)
      | ((with_reducible refine (eput_any w1.heap.size w1.heap.size _ _ v2 _ h2 K3 (by have := HZ.out; have := HS.out; have := H1.out; simp; omega) (by have := g2.size; have := g3.size; simp at *; omega)).mono ?_); rintro e w4 ⟨rfl, K4, g4⟩; have F4 := (((((Box7.new _ _ _ _ _ _ _ _ _).below g1).below (bbox1 _ _)).under g2 y1).under g3 y1).under g4 y1; obtain ⟨y4, p0, p1, p2, p3, p4, p5, p6, pf⟩ := F4)
      | ((with_reducible refine (eput_any w1.heap.size w1.heap.size _ _ v3 _ h3 K4 (by have := HZ.out; have := HS.out; have := H1.out; have := H2.out; simp; omega) (by have := g2.size; have := g3.size; have := g4.size; simp at *; omega)).mono ?_); rintro e w5 ⟨rfl, K5, g5⟩; have F5 := ((((((Box7.new _ _ _ _ _ _ _ _ _).below g1).below (bbox1 _ _)).under g2 y1).under g3 y1).under g4 y1).under g5 y1; obtain ⟨y5, q0, q1, q2, q3, q4, q5, q6, qf⟩ := F5)
      | ((with_reducible refine (holding_write w1.heap.size w1.heap.size _ data _ K5 (by have := HZ.out; have := HS.out; have := H1.out; have := H2.out; have := H3.out; simp; omega) (by have := g2.size; have := g3.size; have := g4.size; have := g5.size; simp at *; omega)).mono ?_); rintro e w6 ⟨rfl, K6, g6⟩)
      | ((with_reducible refine (holding_string w1.heap.size w1.heap.size _ _ K6 (by have := g2.size; have := g3.size; have := g4.size; have := g5.size; have := g6.size; simp at *; omega)).mono ?_); rintro e w7 ⟨rfl, g7⟩))
    go_ret2
    refine ⟨by simp, ?_⟩
    have b1 := bstep (bbox1 _ _) g1
    exact ((((((b1.alloc (by omega) _).trans (g2.mono (by omega))).trans (g3.mono (by omega))).trans (g4.mono (by omega))).trans (g5.mono (by omega))).trans (g6.mono (by omega))).trans (g7.mono (by omega))
def EncE (dst src : ByteArray) (tg : Bool) (vl pr ty : Int) (data s : ByteArray) (x : Int) : Prop :=
  ∀ w : World, Calls Tryz.prog 15 #[.agg #[.string dst, .string src, .bool tg, .int .i64 vl, .int .i64 pr, .int .i64 ty, .string data]] w fun e w' => e = .returned (.tuple #[.string s, .int .i64 x]) ∧ Below w.heap.size w w'
theorem EncE.to {dst src : ByteArray} {tg : Bool} {vl pr ty : Int} {data s : ByteArray} {x : Int} (h : EncE dst src tg vl pr ty data s x) (w : World) :
  Calls Tryz.prog 15 #[.agg #[.string dst, .string src, .bool tg, .int .i64 vl, .int .i64 pr, .int .i64 ty, .string data]] w fun e w' => e = .returned (.tuple #[.string s, .int .i64 x]) ∧ Below w.heap.size w w' := h w
theorem ence_arg (dst src data : ByteArray) (tg : Bool) (vl pr ty : Int) (hz : data.size ≤ 140737488351232) (hnot : ¬ Good3 dst src tg vl pr ty data) : EncE dst src tg vl pr ty data ⟨#[]⟩ 1 := fun w => ethenc_arg dst src data tg vl pr ty hz hnot w
theorem ence_ok (dst src data : ByteArray) (tg : Bool) (vl pr ty : Nat) (hg : Good3 dst src tg vl pr ty data) : EncE dst src tg vl pr ty data ⟨(Et.enc dst.data.toList src.data.toList tg vl pr ty data.data.toList).toArray⟩ 0 := by
  have hgq := hg
  obtain ⟨k1, k2, k3, k4, k5, k6, k7, k8, k9, k10⟩ := hgq
  have p1 : Puts ((33024 : Nat) : Int) 2 ⟨(Pl.be 2 33024).toArray⟩ 0 := puts_good 33024 2 (by decide) (by decide) (by decide) (by decide)
  have p2 : Puts ((pr : Int) * 8192 + (vl : Int)) 2 ⟨(Pl.be 2 (pr * 8192 + vl)).toArray⟩ 0 := by
    have h := puts_good (pr * 8192 + vl) 2 (by omega) (by decide) (by decide) (by omega)
    rw [show ((pr * 8192 + vl : Nat) : Int) = (pr : Int) * 8192 + (vl : Int) from by omega] at h
    exact h
  have p3 : Puts ty 2 ⟨(Pl.be 2 ty).toArray⟩ 0 := puts_good _ 2 (by omega) (by decide) (by decide) (by omega)
  intro w
  have h := ethenc_in dst src data _ _ _ _ tg vl pr ty hg rfl (by rw [size_mk, Pl.be_length]) (by rw [size_mk, Pl.be_length]) (by rw [size_mk, Pl.be_length]) p1 p2 p3 w
  have e : (dst ++ src).data.toList ++ (if tg then (⟨(Pl.be 2 33024).toArray⟩ : ByteArray).data.toList ++ (⟨(Pl.be 2 (pr * 8192 + vl)).toArray⟩ : ByteArray).data.toList else []) ++ (⟨(Pl.be 2 ty).toArray⟩ : ByteArray).data.toList ++ data.data.toList = Et.enc dst.data.toList src.data.toList tg vl pr ty data.data.toList := by
    rw [data_add]; rfl
  rw [e] at h
  exact h
end Go.Proofs.YticdmepplfgdiaaGreatDoor
end
section
namespace Go.Proofs.YticdmepplfgdiaaGreatDoor
open Go.RowKit
theorem from_dataT (s : ByteArray) (a : Nat) : (s.extract a s.size).data.toList = s.data.toList.drop a := by
  rw [data_extract, List.take_of_length_le (by rw [List.length_drop, size_toList]; omega)]
theorem enc_tail (dst src : List UInt8) (tg : Bool) (vl pr ty : Nat) (data : List UInt8) (h1 : dst.length = 6) (h2 : src.length = 6) : (Et.enc dst src tg vl pr ty data).drop 12 = Et.tag tg vl pr ++ (Pl.be 2 ty ++ data) := by
  unfold Et.enc
  rw [List.append_assoc, List.append_assoc]
  exact List.drop_left' (by rw [List.length_append]; omega)
theorem take2_be (n : Nat) (l : List UInt8) : (Pl.be 2 n ++ l).take 2 = Pl.be 2 n := List.take_left' (Pl.be_length _ _)
theorem drop2_be (n : Nat) (l : List UInt8) : (Pl.be 2 n ++ l).drop 2 = l := List.drop_left' (Pl.be_length _ _)
theorem at2_drop (s : ByteArray) (a b : Nat) {l : List UInt8} (h : s.data.toList.drop a = l) : at2 s (a + b) = Pl.num ((l.drop b).take 2) := by
  unfold at2; rw [← h, List.drop_drop]
/-- the bytes of a frame are that frame -/
theorem frcase_enc (dst src data s : ByteArray) (tg : Bool) (vl pr ty : Nat) (hg : Good3 dst src tg vl pr ty data) (hs : s = ⟨(Et.enc dst.data.toList src.data.toList tg vl pr ty data.data.toList).toArray⟩) :
    14 ≤ s.size ∧ s.size ≤ 2018 ∧ s.extract 0 6 = dst ∧ s.extract 6 12 = src ∧ FrCase s dst src (fr dst src tg vl pr ty data) 0 := by
  obtain ⟨k1, k2, k3, k4, k5, k6, k7, k8, k9, k10⟩ := hg
  have l1 := size_toList dst
  have l2 := size_toList src
  have l3 := size_toList data
  have hd : s.data.toList = Et.enc dst.data.toList src.data.toList tg vl pr ty data.data.toList := by rw [hs]
  have hz : s.size = 14 + (if tg then 4 else 0) + data.size := by rw [hs, size_mk, Et.enc_length _ _ _ _ _ _ _ (by omega) (by omega), l3]
  have hT := enc_tail dst.data.toList src.data.toList tg vl pr ty data.data.toList (by omega) (by omega)
  rw [← hd] at hT
  have n1 : Pl.num (Pl.be 2 ty) = ty := Pl.num_be_of_lt (by omega)
  refine ⟨by omega, by rw [hz]; cases tg <;> simp <;> omega, ?_, ?_, ?_⟩
  · apply ba_eq
    rw [data_extract, hd]
    unfold Et.enc
    rw [List.append_assoc, List.append_assoc, List.append_assoc]
    exact List.take_left' (by omega)
  · apply ba_eq
    rw [data_extract, hd]
    unfold Et.enc
    rw [List.append_assoc, List.append_assoc, List.append_assoc, List.drop_left' (by omega)]
    exact List.take_left' (by omega)
  · cases tg
    · have e : s.data.toList.drop 12 = Pl.be 2 ty ++ data.data.toList := hT
      have a1 : at2 s 12 = ty := by rw [at2_drop s 12 0 e, List.drop_zero, take2_be, n1]
      have hk : ty ≠ 33024 := by
        rcases k10 with k | ⟨_, _, k⟩
        · cases k
        · omega
      have hvl : (vl : Int) = 0 ∧ (pr : Int) = 0 := by
        rcases k10 with k | ⟨x, y, _⟩
        · cases k
        · exact ⟨x, y⟩
      refine .inl ⟨by omega, by simp at hz; omega, data, ?_, ?_, rfl⟩
      · apply ba_eq
        rw [from_dataT, show 14 = 12 + 2 from rfl, ← List.drop_drop, e, drop2_be]
      · rw [a1, hvl.1, hvl.2]
    · have e : s.data.toList.drop 12 = Pl.be 2 33024 ++ (Pl.be 2 (pr * 8192 + vl) ++ (Pl.be 2 ty ++ data.data.toList)) := by
        rw [hT, Et.tag, if_pos rfl, List.append_assoc]
      have a1 : at2 s 12 = 33024 := by rw [at2_drop s 12 0 e, List.drop_zero, take2_be]; decide
      have e4 : s.data.toList.drop 14 = Pl.be 2 (pr * 8192 + vl) ++ (Pl.be 2 ty ++ data.data.toList) := by rw [show 14 = 12 + 2 from rfl, ← List.drop_drop, e, drop2_be]
      have e6 : s.data.toList.drop 16 = Pl.be 2 ty ++ data.data.toList := by rw [show 16 = 14 + 2 from rfl, ← List.drop_drop, e4, drop2_be]
      have a2 : at2 s 14 = pr * 8192 + vl := by rw [at2_drop s 14 0 e4, List.drop_zero, take2_be]; exact Pl.num_be_of_lt (by omega)
      have a3 : at2 s 16 = ty := by rw [at2_drop s 16 0 e6, List.drop_zero, take2_be, n1]
      simp only [if_true] at hz
      refine .inr (.inr (.inr (.inr (.inr ⟨a1, by omega, by omega, by omega, by omega, data, ?_, ?_, rfl⟩))))
      · apply ba_eq
        rw [from_dataT, show 18 = 16 + 2 from rfl, ← List.drop_drop, e6, drop2_be]
      · rw [a2, a3]
        have v1 : (pr * 8192 + vl) % 4096 = vl := by omega
        have v2 : (pr * 8192 + vl) / 8192 = pr := by omega
        rw [v1, v2]
theorem dec_enc (dst src data : ByteArray) (tg : Bool) (vl pr ty : Nat) (hg : Good3 dst src tg vl pr ty data) : DecE ⟨(Et.enc dst.data.toList src.data.toList tg vl pr ty data.data.toList).toArray⟩ (fr dst src tg vl pr ty data) 0 := by
  obtain ⟨h1, h2, h3, h4, h5⟩ := frcase_enc dst src data _ tg vl pr ty hg rfl
  exact fun w => ethdec_in _ dst src _ 0 h1 (by omega) h3 h4 h5 w
end Go.Proofs.YticdmepplfgdiaaGreatDoor
end
section
namespace Go.Proofs.YticdmepplfgdiaaGreatDoor
open Go.RowKit
theorem bt_at (s : ByteArray) (k : Nat) : PlainAid.bt s k = ((s.data.toList.getD k 0).toNat : Int) := by
  have e := size_toList s
  unfold PlainAid.bt
  by_cases h : k < s.size
  · rw [dif_pos h, List.getD_eq_getElem?_getD, List.getElem?_eq_getElem (by omega)]
    rfl
  · rw [dif_neg h, List.getD_eq_getElem?_getD, List.getElem?_eq_none (by omega)]
    rfl
/-- is an address one of many? -/
def many (l : List UInt8) : Bool := l.length == 6 && (l.getD 0 0).toNat % 2 == 1
set_option maxRecDepth 100000 in
theorem many_is (s : ByteArray) (w : World) : Calls Tryz.prog 109 #[.string s] w fun e w' => e = .returned (.bool (many s.data.toList)) ∧ w = w' := by
  have hbt := PlainAid.get_bt s
  have e := size_toList s
  by_cases h6 : s.size = 6
  · have a1 : ((s.size : Int) == 6) = true := by rw [h6]; rfl
    have hpos : 0 < s.size := by omega
    have hb := bt_at s 0
    have hx := (s.data.toList.getD 0 0).toNat_lt
    have hm : (bits BinOp.and IntKind.u8 (PlainAid.bt s 0) 1 == 1) = many s.data.toList := by
      rw [hb, show (1 : Int) = ((1 : Nat) : Int) from rfl, u8_and_nat _ _ hx (by decide), Nat.and_one_is_mod]
      unfold many
      rw [e, h6, Bool.eq_iff_iff]
      simp
      omega
    have HM := Lib.hid hm
    clear hm hb hx e h6
    go_enter Tryz.func109, Tryz.ntmps109
    go_wp2
    go_ret
    exact ⟨ret_bool (by rw [← HM.out]), rfl⟩
  · have a1 : ((s.size : Int) == 6) = false := by rw [beq_eq_false_iff_ne]; omega
    have hm : many s.data.toList = false := by unfold many; rw [e]; simp [h6]
    have HM := Lib.hid hm
    clear hm e h6
    go_enter Tryz.func109, Tryz.ntmps109
    go_wp2
    go_ret
    exact ⟨by rw [HM.out]; rfl, rfl⟩
theorem slice_fromA (s : ByteArray) (a : Nat) (h : a ≤ s.size) (x : Int) (hx : x = a) (w : World) : (Instr.slice 25 (.string s) (some (.int .i64 x)) none none).run Tryz.prog w = .ok (.string (s.extract a s.size)) w := by
  subst hx
  rw [run_slice_string_from_if (P := Tryz.prog) w 25 s .i64 (a : Int) Tryz.underlying25, if_pos ⟨by omega, by omega⟩]
  rfl
theorem one_string2 (W : World) (b : UInt8) : (convert 147 9 (.slice (some ⟨W.heap.size, 0, none⟩) 1 1)).run Tryz.prog (W.alloc (.cells #[.int .u8 b.toNat] 5)).drew = .ok (.string ⟨#[b]⟩) (W.alloc (.cells #[.int .u8 b.toNat] 5)).drew := by
  have hb : BytesAt (W.alloc (.cells #[.int .u8 b.toNat] 5)) W.heap.size [b] := by
    intro j hj
    simp only [List.length_cons, List.length_nil] at hj
    obtain rfl : j = 0 := by omega
    constructor <;> simp [go_sem]
  exact (hb.drewN 1).string 1 1 rfl
attribute [local go_sem ↓] Go.wp_at_zero Go.wp_at_succ
set_option maxRecDepth 100000 in
set_option maxHeartbeats 2000000 in
theorem group_4 (s : ByteArray) (hs : s.size = 4) (h0 : (s.data.toList.getD 0 0).toNat / 16 = 14) (m : ByteArray) (hm : m.data.toList = [1, 0, 94, UInt8.ofNat ((s.data.toList.getD 1 0).toNat % 128)] ++ s.data.toList.drop 2) (w : World) :
    Calls Tryz.prog 134 #[.string s] w fun e w' => e = .returned (.tuple #[.string m, .int .i64 0]) ∧ Below w.heap.size w w' := by
  have hbt := PlainAid.get_bt s
  have a1 : ((s.size : Int) == 4) = true := by rw [hs]; rfl
  have hb0 := bt_at s 0
  have hb1 := bt_at s 1
  have hx := (s.data.toList.getD 1 0).toNat_lt
  have a2 : (PlainAid.bt s 0 / 16 == 14) = true := by rw [beq_iff_eq, hb0]; omega
  obtain ⟨g, hg⟩ : ∃ g, g = UInt8.ofNat ((s.data.toList.getD 1 0).toNat % 128) := ⟨_, rfl⟩
  have hgn : g.toNat = (s.data.toList.getD 1 0).toNat % 128 := by rw [hg, UInt8.toNat_ofNat', Nat.mod_eq_of_lt (by omega)]
  have hand : bits BinOp.and IntKind.u8 (PlainAid.bt s 1) 127 = (g.toNat : Int) := by
    rw [hb1, show (127 : Int) = ((127 : Nat) : Int) from rfl, u8_and_nat _ _ hx (by decide), hgn]
    congr 1
    exact Nat.and_two_pow_sub_one_eq_mod _ 7
  rw [← hg] at hm
  have hone := fun W => one_string2 W g
  obtain ⟨x1, hx1⟩ : ∃ x : ByteArray, x = ⟨#[1, 0, 94]⟩ ++ ⟨#[g]⟩ := ⟨_, rfl⟩
  obtain ⟨x2, hx2⟩ : ∃ x, x = s.extract 2 s.size := ⟨_, rfl⟩
  have hpos : 2 ≤ s.size := by omega
  have k2 := slice_fromA s 2 (by omega) 2 rfl
  rw [← hx2] at k2
  have j1 := join2 ⟨#[1, 0, 94]⟩ ⟨#[g]⟩ (by show 3 + 1 ≤ _; decide)
  rw [← hx1] at j1
  have j2 := join2 x1 x2 (by rw [hx1, hx2, size_add, ByteArray.size_extract]; show 3 + 1 + _ ≤ _; omega)
  have hres : x1 ++ x2 = m := by
    apply ba_eq
    rw [data_add, hm, hx1, hx2, data_add, data_extract, List.take_of_length_le (by rw [List.length_drop, size_toList]; omega)]
    rfl
  rw [hres] at j2
  clear hs h0 hm hb0 hb1 hx hg hgn hx1 hx2 hres
  go_enter Tryz.func134, Tryz.ntmps134
  go_wp2_with fail
  go_region_with (fail)
  all_goals
    go_wp2
    go_ret2
    exact ⟨rfl, Below.drew (bbox1 _ _)⟩
set_option maxRecDepth 100000 in
set_option maxHeartbeats 2000000 in
theorem group_16 (s : ByteArray) (hs : s.size = 16) (h0 : (s.data.toList.getD 0 0).toNat = 255) (m : ByteArray) (hm : m.data.toList = [51, 51] ++ s.data.toList.drop 12) (w : World) :
    Calls Tryz.prog 134 #[.string s] w fun e w' => e = .returned (.tuple #[.string m, .int .i64 0]) ∧ Below w.heap.size w w' := by
  have hbt := PlainAid.get_bt s
  have a1 : ((s.size : Int) == 4) = false := by rw [hs]; rfl
  have a3 : ((s.size : Int) == 16) = true := by rw [hs]; rfl
  have hb0 := bt_at s 0
  have a2 : (PlainAid.bt s 0 == 255) = true := by rw [beq_iff_eq, hb0]; omega
  obtain ⟨x2, hx2⟩ : ∃ x, x = s.extract 12 s.size := ⟨_, rfl⟩
  have hpos : 12 ≤ s.size := by omega
  have k2 := slice_fromA s 12 (by omega) 12 rfl
  rw [← hx2] at k2
  have j1 := join2 ⟨#[51, 51]⟩ x2 (by rw [hx2, ByteArray.size_extract]; show 2 + _ ≤ _; omega)
  have hres : (⟨#[51, 51]⟩ : ByteArray) ++ x2 = m := by
    apply ba_eq
    rw [data_add, hm, hx2, data_extract, List.take_of_length_le (by rw [List.length_drop, size_toList]; omega)]
  rw [hres] at j1
  have hx3 := hx2.symm
  clear hs h0 hm hb0 hx2 hres
  go_enter Tryz.func134, Tryz.ntmps134
  go_wp2
  go_ret2
  exact ⟨rfl, Below.refl _ _⟩
set_option maxRecDepth 100000 in
set_option maxHeartbeats 2000000 in
theorem group_no (s : ByteArray) (h4 : ¬ (s.size = 4 ∧ (s.data.toList.getD 0 0).toNat / 16 = 14)) (h16 : ¬ (s.size = 16 ∧ (s.data.toList.getD 0 0).toNat = 255)) (w : World) :
    Calls Tryz.prog 134 #[.string s] w fun e w' => e = .returned (.tuple #[.string ⟨#[]⟩, .int .i64 1]) ∧ Below w.heap.size w w' := by
  have hbt := PlainAid.get_bt s
  have hb0 := bt_at s 0
  have hc : (0 < s.size ∧ ((s.size : Int) == 4) = true ∧ (PlainAid.bt s 0 / 16 == 14) = false ∧ ((s.size : Int) == 16) = false) ∨ (0 < s.size ∧ ((s.size : Int) == 4) = false ∧ ((s.size : Int) == 16) = true ∧ (PlainAid.bt s 0 == 255) = false) ∨ (((s.size : Int) == 4) = false ∧ ((s.size : Int) == 16) = false) := by
    rw [hb0]
    simp only [beq_iff_eq, beq_eq_false_iff_ne]
    omega
  clear h4 h16 hb0
  rcases hc with ⟨hp, a1, a2, a3⟩ | ⟨hp, a1, a2, a3⟩ | ⟨a1, a2⟩
  all_goals
    go_enter Tryz.func134, Tryz.ntmps134
    go_wp2
    go_ret2
    exact ⟨rfl, Below.refl _ _⟩
def GroupE (s m : ByteArray) (x : Int) : Prop :=
  ∀ w : World, Calls Tryz.prog 134 #[.string s] w fun e w' => e = .returned (.tuple #[.string m, .int .i64 x]) ∧ Below w.heap.size w w'
theorem GroupE.to {s m : ByteArray} {x : Int} (h : GroupE s m x) (w : World) : Calls Tryz.prog 134 #[.string s] w fun e w' => e = .returned (.tuple #[.string m, .int .i64 x]) ∧ Below w.heap.size w w' := h w
end Go.Proofs.YticdmepplfgdiaaGreatDoor
end
section
namespace Go.Proofs.YticdmepplfgdiaaGreatDoor
open Go.RowKit
end Go.Proofs.YticdmepplfgdiaaGreatDoor
end
section
namespace Go.Proofs.YticdmepplfgdiaaGreatDoor
open Go.RowKit
/-- a slice of texts -/
def Strs (W : World) (v : Value) (l : List ByteArray) : Prop :=
  ∃ (a : Option Addr) (cap : Nat), v = .slice a l.length cap ∧ (l = [] ∨ ∃ b o, a = some ⟨b, o, none⟩ ∧ b < W.heap.size ∧ ∀ i, i < l.length → W.cell? ⟨b, o + i, none⟩ = some (.string (l.getD i ⟨#[]⟩)))
theorem Strs.below {W W' : World} {v : Value} {l : List ByteArray} (h : Strs W v l) (g : Below W.heap.size W W') : Strs W' v l := by
  obtain ⟨a, cap, rfl, h⟩ := h
  refine ⟨a, cap, rfl, ?_⟩
  rcases h with h | ⟨b, o, rfl, hb, hc⟩
  · exact .inl h
  · exact .inr ⟨b, o, rfl, Nat.lt_of_lt_of_le hb g.size, fun i hi => (g.cell hb).trans (hc i hi)⟩
theorem Strs.under {W W' : World} {n : Nat} {v : Value} {l : List ByteArray} (h : Strs W v l) (g : Below n W W') (hn : W.heap.size ≤ n) : Strs W' v l := h.below (g.mono hn)
theorem Strs.row {W : World} {a : Option Addr} {l : List ByteArray} {k : Nat} (h : l = [] ∨ ∃ b o, a = some ⟨b, o, none⟩ ∧ b < W.heap.size ∧ ∀ i, i < l.length → W.cell? ⟨b, o + i, none⟩ = some (.string (l.getD i ⟨#[]⟩))) (hk : k < l.length) :
    ∃ b o, a = some ⟨b, o, none⟩ ∧ b < W.heap.size ∧ ∀ i, i < l.length → W.cell? ⟨b, o + i, none⟩ = some (.string (l.getD i ⟨#[]⟩)) :=
  h.resolve_left (by rintro rfl; exact absurd hk (Nat.not_lt_zero _))
theorem strs_of_row {W : World} {B : Nat} {v : Value} {l : List ByteArray} (h : W.ownsRow B 25 1 v l.length (l.map (Value.string))) : Strs W v l := by
  have hh := h
  rcases h.2 with ⟨rfl, h0⟩ | ⟨g, cap, cur, rfl, hb, hg, _⟩
  · have : l = [] := List.length_eq_zero_iff.1 h0
    subst this
    exact ⟨none, 0, rfl, .inl rfl⟩
  · refine ⟨_, cap, rfl, .inr ⟨g, 0, rfl, ?_, fun i hi => ?_⟩⟩
    · rcases Nat.lt_or_ge g W.heap.size with h' | h'
      · exact h'
      · simp [Array.getElem?_eq_none h'] at hg
    · rw [Nat.zero_add, hh.cellAt i (by omega), List.getElem?_map, List.getD_eq_getElem?_getD, List.getElem?_eq_getElem hi]
      rfl
theorem getD_mem {l : List ByteArray} {k : Nat} (hk : k < l.length) : l.getD k ⟨#[]⟩ ∈ l := by
  rw [List.getD_eq_getElem?_getD, List.getElem?_eq_getElem hk]
  exact List.getElem_mem hk
theorem take_getD {l : List ByteArray} {k : Nat} (hk : k < l.length) : l.take (k + 1) = l.take k ++ [l.getD k ⟨#[]⟩] := by
  rw [List.take_succ_eq_append_getElem hk, List.getD_eq_getElem?_getD, List.getElem?_eq_getElem hk]
  rfl
/-- is an address a group's, of four bytes? -/
def grp4 (a : ByteArray) : Bool := a.size == 4 && (a.data.toList.getD 0 0).toNat / 16 == 14
set_option maxRecDepth 100000 in
set_option maxHeartbeats 1000000 in
theorem isGroup_4 (a : ByteArray) (w : World) : Calls Tryz.prog 75 #[.string a, .int .i64 4] w fun e w' => e = .returned (.bool (grp4 a)) ∧ Below w.heap.size w w' := by
  by_cases h4 : a.size = 4 ∧ (a.data.toList.getD 0 0).toNat / 16 = 14
  · have hg : grp4 a = true := by
      unfold grp4
      rw [Bool.and_eq_true]
      exact ⟨by simpa using h4.1, by rw [beq_iff_eq]; exact h4.2⟩
    have HG := Lib.hid (fun W => group_4 a h4.1 h4.2 ⟨([1, 0, 94, UInt8.ofNat ((a.data.toList.getD 1 0).toNat % 128)] ++ a.data.toList.drop 2).toArray⟩ rfl W)
    have hz : ((a.size : Int) == 4) = true := by rw [h4.1]; rfl
    rw [hg]
    clear h4 hg
    go_enter Tryz.func75, Tryz.ntmps75
    go_wp2_with (go_at_call 134; (with_reducible refine (HG.out _).mono ?_); rintro e w1 ⟨rfl, g1⟩)
    go_ret
    exact ⟨rfl, g1⟩
  · have hg : grp4 a = false := by
      unfold grp4
      rw [Bool.and_eq_false_iff]
      by_cases hs : a.size = 4
      · exact .inr (by simpa using fun h => h4 ⟨hs, h⟩)
      · exact .inl (by simpa using hs)
    rw [hg]
    by_cases h16 : a.size = 16 ∧ (a.data.toList.getD 0 0).toNat = 255
    · have HG := Lib.hid (fun W => group_16 a h16.1 h16.2 ⟨([51, 51] ++ a.data.toList.drop 12).toArray⟩ rfl W)
      have hz : ((a.size : Int) == 4) = false := by rw [h16.1]; rfl
      clear h4 hg h16
      go_enter Tryz.func75, Tryz.ntmps75
      go_wp2_with (go_at_call 134; (with_reducible refine (HG.out _).mono ?_); rintro e w1 ⟨rfl, g1⟩)
      go_ret
      exact ⟨rfl, g1⟩
    · have HG := Lib.hid (fun W => group_no a h4 h16 W)
      clear h4 hg h16
      go_enter Tryz.func75, Tryz.ntmps75
      go_wp2_with (go_at_call 134; (with_reducible refine (HG.out _).mono ?_); rintro e w1 ⟨rfl, g1⟩)
      go_ret
      exact ⟨rfl, g1⟩
theorem isSize_4 (w : World) : Calls Tryz.prog 151 #[.int .i64 4] w fun e w' => e = .returned (.bool true) ∧ w = w' := by
  go_enter Tryz.func151, Tryz.ntmps151
  go_wp2
  go_ret
  exact ⟨rfl, rfl⟩
def knownK (k : Int) : Bool := decide (1 ≤ k) && decide (k ≤ 6)
theorem known_is (k : Int) (w : World) : Calls Tryz.prog 153 #[.int .i64 k] w fun e w' => e = .returned (.bool (knownK k)) ∧ w = w' := by
  unfold knownK
  rcases h1 : decide (1 ≤ k) with _ | _
  · go_enter Tryz.func153, Tryz.ntmps153
    go_wp2
    go_ret
    exact ⟨rfl, rfl⟩
  · go_enter Tryz.func153, Tryz.ntmps153
    go_wp2
    go_ret
    exact ⟨rfl, rfl⟩
set_option maxRecDepth 100000 in
set_option maxHeartbeats 1000000 in
theorem fit_any (v : Value) (l : List ByteArray) (r : Bool) (hr : r = true ↔ (∀ s, s ∈ l → s.size = 4) ∧ l.length ≤ 60) (hl : l.length ≤ 9223372036854775807) (w : World) (hv : Strs w v l) :
    Calls Tryz.prog 141 #[v, .int .i64 4] w fun e w' => e = .returned (.bool r) ∧ w = w' := by
  obtain ⟨a, cap, rfl, h⟩ := hv
  have HR := Lib.hid hr
  clear hr
  go_enter Tryz.func141, Tryz.ntmps141
  go_wp2
  go_loopw [4, 6, 9] (fun _ _ i wr => ∃ k : Nat, k ≤ l.length ∧ i = .int .i64 k ∧ Hid (∀ s, s ∈ l.take k → s.size = 4) ∧ wr = w) (fun _ _ i _ => l.length + 1 - (intOf i).toNat)
  case atStart => exact ⟨0, Nat.zero_le _, rfl, by show ∀ s, s ∈ l.take 0 → s.size = 4; simp, rfl⟩
  case round =>
    obtain ⟨k, hk, rfl, hno, rfl⟩ := hrel
    by_cases hlt : k < l.length
    · obtain ⟨b, o, rfl, hb, hc⟩ := Strs.row h hlt
      have hck := hc k hlt
      obtain ⟨x, ex⟩ : ∃ x, x = l.getD k ⟨#[]⟩ := ⟨_, rfl⟩
      rw [← ex] at hck
      clear hc h
      by_cases h4 : x.size = 4
      · have hz : ((x.size : Int) != 4) = false := by rw [h4]; rfl
        have HN := Lib.hid (show ∀ s, s ∈ l.take (k + 1) → s.size = 4 by
          rw [take_getD hlt, ← ex]
          intro s hs
          rcases List.mem_append.1 hs with hs | hs
          · exact hno.out s hs
          · rw [List.mem_singleton.1 hs]; exact h4)
        clear hno ex h4
        go_wp2
        refine ⟨⟨k + 1, by omega, by go_num, HN, trivial⟩, ?_⟩
        simp [intOf]; omega
      · have hz : ((x.size : Int) != 4) = true := by rw [bne_iff_ne]; omega
        have HF := Lib.hid (show r = false by
          rcases r with _ | _
          · rfl
          · exact absurd ((HR.out.1 rfl).1 x (by rw [ex]; exact getD_mem hlt)) h4)
        clear hno ex h4
        go_wp2
        go_ret
        exact ⟨by rw [HF.out]; rfl, rfl⟩
    · have he : k = l.length := by omega
      subst he
      have HF := Lib.hid (show decide ((l.length : Int) ≤ 60) = r by
        have hall : ∀ s, s ∈ l → s.size = 4 := by have := hno.out; rwa [List.take_length] at this
        rcases hr : r with _ | _
        · rw [decide_eq_false_iff_not]
          intro hle
          have := HR.out.2 ⟨hall, by omega⟩
          rw [hr] at this
          cases this
        · rw [decide_eq_true_iff]
          have := (HR.out.1 hr).2
          omega)
      clear hno
      go_wp2
      go_ret
      exact ⟨ret_bool HF.out, rfl⟩
end Go.Proofs.YticdmepplfgdiaaGreatDoor
end
