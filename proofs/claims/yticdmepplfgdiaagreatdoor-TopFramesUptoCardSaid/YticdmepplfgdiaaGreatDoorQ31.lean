/-
  What the program's ipv4.Decode computes. Conditions: those of each case.
-/
import Derived.Test.YticdmepplfgdiaaGreatDoorQ14
import Derived.Test.YticdmepplfgdiaaGreatDoorQ03
import Derived.Test.YticdmepplfgdiaaGreatDoorQ04
set_option linter.unusedVariables false
set_option linter.unusedSimpArgs false
namespace Go.Proofs.YticdmepplfgdiaaGreatDoor
open Go.RowKit
def v4 (id ttl pr : Int) (src dst opts data : ByteArray) : Value := .agg #[.int .i64 id, .int .i64 ttl, .int .i64 pr, .string src, .string dst, .string opts, .string data]
def zeroV4 : Value := .agg #[.int .i64 0, .int .i64 0, .int .i64 0, .string ⟨#[]⟩, .string ⟨#[]⟩, .string ⟨#[]⟩, .string ⟨#[]⟩]
/-- the number that two bytes are, from a place on -/
def w2 (s : ByteArray) (a : Nat) : Nat := Pl.num ((s.data.toList.drop a).take 2)
theorem w2_lt (s : ByteArray) (a : Nat) : w2 s a < 65536 := by
  have h := Pl.num_lt ((s.data.toList.drop a).take 2)
  have h2 : 256 ^ ((s.data.toList.drop a).take 2).length ≤ 256 ^ 2 := Nat.pow_le_pow_right (by decide) (by rw [List.length_take]; omega)
  unfold w2; omega
/-- a text's byte, as a number -/
def b1 (s : ByteArray) (k : Nat) : Nat := (s.data.toList.getD k 0).toNat
theorem b1_lt (s : ByteArray) (k : Nat) : b1 s k < 256 := (s.data.toList.getD k 0).toNat_lt
theorem bt_b1 (s : ByteArray) (k : Nat) : PlainAid.bt s k = (b1 s k : Int) := bt_at s k
/-- is a sum right? -/
def Rgt (s : ByteArray) (b : Bool) : Prop :=
  ∀ w : World, Calls Tryz.prog 72 #[.string s] w fun e w' => e = .returned (.bool b) ∧ Below w.heap.size w w'
theorem Rgt.to {s : ByteArray} {b : Bool} (h : Rgt s b) (w : World) : Calls Tryz.prog 72 #[.string s] w fun e w' => e = .returned (.bool b) ∧ Below w.heap.size w w' := h w
theorem rgt_any (s : ByteArray) (hs : s.size ≤ 281474976710656) (b : Bool) (h : b = true ↔ Cs.sum s.data.toList = 0) : Rgt s b := fun w => by
  have e : b = ((Cs.sum s.data.toList : Int) == 0) := by
    rw [Bool.eq_iff_iff, h, beq_iff_eq]; omega
  rw [e]; exact right_any s hs w
/-- the packet of twenty bytes or more, or why there is none; n: the head's fours -/
def V4Case (s : ByteArray) (n : Nat) (v : Value) (e : Int) : Prop :=
  ((b1 s 0 / 16 ≠ 4 ∨ 4 * n < 20) ∧ v = zeroV4 ∧ e = 3) ∨
  (b1 s 0 / 16 = 4 ∧ 20 ≤ 4 * n ∧ s.size < 4 * n ∧ v = zeroV4 ∧ e = 2) ∨
  (b1 s 0 / 16 = 4 ∧ 20 ≤ 4 * n ∧ 4 * n ≤ s.size ∧ ∃ r, s.extract 0 (4 * n) = r ∧
    ((Cs.sum r.data.toList ≠ 0 ∧ v = zeroV4 ∧ e = 4) ∨
     (Cs.sum r.data.toList = 0 ∧
      ((w2 s 2 < 4 * n ∧ v = zeroV4 ∧ e = 3) ∨
       (4 * n ≤ w2 s 2 ∧ s.size < w2 s 2 ∧ v = zeroV4 ∧ e = 2) ∨
       (4 * n ≤ w2 s 2 ∧ w2 s 2 ≤ s.size ∧ w2 s 6 ≠ 0 ∧ w2 s 6 ≠ 16384 ∧ v = zeroV4 ∧ e = 3) ∨
       (4 * n ≤ w2 s 2 ∧ w2 s 2 ≤ s.size ∧ (w2 s 6 = 0 ∨ w2 s 6 = 16384) ∧ ∃ src dst opts data, s.extract 12 16 = src ∧ s.extract 16 20 = dst ∧ s.extract 20 (4 * n) = opts ∧ s.extract (4 * n) (w2 s 2) = data ∧
         v = v4 (w2 s 4 : Nat) (b1 s 8 : Nat) (b1 s 9 : Nat) src dst opts data ∧ e = 0)))))
attribute [local go_sem ↓] Go.wp_at_zero Go.wp_at_succ
set_option maxRecDepth 100000 in
set_option maxHeartbeats 4000000 in
set_option linter.unusedSimpArgs false in
theorem v4dec_in (s : ByteArray) (n : Nat) (v : Value) (x : Int) (hs : 20 ≤ s.size) (hl : s.size ≤ 281474976710656) (hn : n = b1 s 0 % 16) (hcase : V4Case s n v x) (w : World) :
    Calls Tryz.prog 17 #[.string s] w fun e w' => e = .returned (.tuple #[v, .int .i64 x]) ∧ Below w.heap.size w w' := by
  have hbt := PlainAid.get_bt s
  have hG2 : Gets s 2 2 (w2 s 2 : Nat) 0 := gets_ok s 2 2 (by omega) (by decide) (by decide) (by omega)
  have hG4 : Gets s 4 2 (w2 s 4 : Nat) 0 := gets_ok s 4 2 (by omega) (by decide) (by decide) (by omega)
  have hG6 : Gets s 6 2 (w2 s 6 : Nat) 0 := gets_ok s 6 2 (by omega) (by decide) (by decide) (by omega)
  have hA := w2_lt s 2
  have hI := w2_lt s 4
  have hP := w2_lt s 6
  have hB := b1_lt s 0
  have h8 := b1_lt s 8
  have h9 := b1_lt s 9
  have e0 := bt_b1 s 0
  have e8 := bt_b1 s 8
  have e9 := bt_b1 s 9
  have h15 : bits BinOp.and IntKind.u8 (PlainAid.bt s 0) 15 = (n : Int) := by
    rw [e0, show (15 : Int) = ((15 : Nat) : Int) from rfl, u8_and_nat _ _ hB (by decide), hn]
    congr 1
    exact Nat.and_two_pow_sub_one_eq_mod _ 4
  have hn15 : n ≤ 15 := by omega
  have hcq := hcase
  unfold V4Case at hcq
  clear hcase hn
  obtain ⟨B0, eB⟩ : ∃ k, k = b1 s 0 := ⟨_, rfl⟩
  obtain ⟨B8, eB8⟩ : ∃ k, k = b1 s 8 := ⟨_, rfl⟩
  obtain ⟨B9, eB9⟩ : ∃ k, k = b1 s 9 := ⟨_, rfl⟩
  obtain ⟨A, eA⟩ : ∃ k, k = w2 s 2 := ⟨_, rfl⟩
  obtain ⟨I, eI⟩ : ∃ k, k = w2 s 4 := ⟨_, rfl⟩
  obtain ⟨P, eP⟩ : ∃ k, k = w2 s 6 := ⟨_, rfl⟩
  rw [← eB] at e0 hcq hB
  rw [← eA] at hG2 hA hcq
  rw [← eI] at hG4 hI hcq
  rw [← eP] at hG6 hP hcq
  rw [← eB8] at e8 h8 hcq
  rw [← eB9] at e9 h9 hcq
  clear eB eA eI eP eB8 eB9
  rcases hcq with ⟨hc, rfl, rfl⟩ | ⟨c1, c2, c3, rfl, rfl⟩ | ⟨c1, c2, c3, r, hr, hc⟩
  · -- the form
    have hc' : (PlainAid.bt s 0 / 16 != 4) = true ∨ ((PlainAid.bt s 0 / 16 != 4) = false ∧ decide (4 * (n : Int) < 20) = true) := by
      rw [e0, bne_iff_ne, bne_eq_false_iff_eq, decide_eq_true_eq]; omega
    clear hc e0 e8 e9
    rcases hc' with a1 | ⟨a1, a2⟩
    all_goals
      go_enter Tryz.func17, Tryz.ntmps17
      go_wp2_with (first | ((with_reducible refine (hG2.to _).mono ?_); rintro e w1 ⟨rfl, g1⟩) | ((with_reducible refine (hG4.to _).mono ?_); rintro e w2 ⟨rfl, g2⟩) | ((with_reducible refine (hG6.to _).mono ?_); rintro e w3 ⟨rfl, g3⟩; obtain ⟨z, c0, c1, c2, c3, c4, c5, c6, cf⟩ := (((Box7.new w _ _ _ _ _ _ _ _).below g1).below g2).below g3))
      exact bodyPost_ret (v := .tuple #[zeroV4, .int .i64 3]) (by simp [zeroV4, results, Tryz.results17, go_sem, c0, c1, c2, c3, c4, c5, c6]) rfl ⟨rfl, by (repeat (with_reducible refine Below.setCell ?_ (by simp) _)); exact bstep (bstep (bstep (bbox1 _ _) g1) g2) g3⟩
  · -- cut off within the head
    have a1 : (PlainAid.bt s 0 / 16 != 4) = false := by rw [e0, bne_eq_false_iff_eq]; omega
    have a2 : decide (4 * (n : Int) < 20) = false := decide_eq_false (by omega)
    have a3 : decide ((s.size : Int) < 4 * (n : Int)) = true := decide_eq_true (by omega)
    clear e0 e8 e9 c1 c2 c3
    go_enter Tryz.func17, Tryz.ntmps17
    go_wp2_with (first | ((with_reducible refine (hG2.to _).mono ?_); rintro e w1 ⟨rfl, g1⟩) | ((with_reducible refine (hG4.to _).mono ?_); rintro e w2 ⟨rfl, g2⟩) | ((with_reducible refine (hG6.to _).mono ?_); rintro e w3 ⟨rfl, g3⟩; have B3 := (((Box7.new w _ _ _ _ _ _ _ _).below g1).below g2).below g3; obtain ⟨z, c0, c1, c2, c3, c4, c5, c6, cf⟩ := B3))
    exact bodyPost_ret (v := .tuple #[zeroV4, .int .i64 2]) (by simp [zeroV4, results, Tryz.results17, go_sem, c0, c1, c2, c3, c4, c5, c6]) rfl ⟨rfl, by (repeat (with_reducible refine Below.setCell ?_ (by simp) _)); exact bstep (bstep (bstep (bbox1 _ _) g1) g2) g3⟩
  · have a1 : (PlainAid.bt s 0 / 16 != 4) = false := by rw [e0, bne_eq_false_iff_eq]; omega
    have a2 : decide (4 * (n : Int) < 20) = false := decide_eq_false (by omega)
    have a3 : decide ((s.size : Int) < 4 * (n : Int)) = false := decide_eq_false (by omega)
    have k1 := slice_to s (4 * n) (by omega) (4 * (n : Int)) (by omega)
    have rz : r.size ≤ 60 := by rw [← hr, ByteArray.size_extract]; omega
    rw [hr] at k1
    have HC := Lib.hid (And.intro c2 c3)
    clear e0 c1 c2 c3
    rcases hc with ⟨h1, rfl, rfl⟩ | ⟨h1, hc⟩
    · -- the sum
      have hQ : Rgt r false := rgt_any r (by omega) false (by simp [h1])
      clear h1 hr rz
      go_enter Tryz.func17, Tryz.ntmps17
      go_wp2_with (first | ((with_reducible refine (hG2.to _).mono ?_); rintro e w1 ⟨rfl, g1⟩) | ((with_reducible refine (hG4.to _).mono ?_); rintro e w2 ⟨rfl, g2⟩) | ((with_reducible refine (hG6.to _).mono ?_); rintro e w3 ⟨rfl, g3⟩; have B3 := (((Box7.new w _ _ _ _ _ _ _ _).below g1).below g2).below g3; obtain ⟨z, c0, c1, c2, c3, c4, c5, c6, cf⟩ := B3) | ((with_reducible refine (hQ.to _).mono ?_); rintro e w4 ⟨rfl, g4⟩; have B4 := Box7.below ⟨z, c0, c1, c2, c3, c4, c5, c6, cf⟩ g4; obtain ⟨yz, d0, d1, d2, d3, d4, d5, d6, df⟩ := B4))
      exact bodyPost_ret (v := .tuple #[zeroV4, .int .i64 4]) (by simp [zeroV4, results, Tryz.results17, go_sem, d0, d1, d2, d3, d4, d5, d6]) rfl ⟨rfl, by (repeat (with_reducible refine Below.setCell ?_ (by simp) _)); exact bstep (bstep (bstep (bstep (bbox1 _ _) g1) g2) g3) g4⟩
    · have hQ : Rgt r true := rgt_any r (by omega) true (by simp [h1])
      clear h1 hr rz
      rcases hc with ⟨h2, rfl, rfl⟩ | ⟨h2, h3, rfl, rfl⟩ | ⟨h2, h3, h4, h5, rfl, rfl⟩ | ⟨h2, h3, h4, src, dst, opts, data, q1, q2, q3, q4, rfl, rfl⟩
      · have a4 : decide ((A : Int) < 4 * (n : Int)) = true := decide_eq_true (by omega)
        clear h2
        go_enter Tryz.func17, Tryz.ntmps17
        go_wp2_with (first | ((with_reducible refine (hG2.to _).mono ?_); rintro e w1 ⟨rfl, g1⟩) | ((with_reducible refine (hG4.to _).mono ?_); rintro e w2 ⟨rfl, g2⟩) | ((with_reducible refine (hG6.to _).mono ?_); rintro e w3 ⟨rfl, g3⟩; have B3 := (((Box7.new w _ _ _ _ _ _ _ _).below g1).below g2).below g3; obtain ⟨z, c0, c1, c2, c3, c4, c5, c6, cf⟩ := B3) | ((with_reducible refine (hQ.to _).mono ?_); rintro e w4 ⟨rfl, g4⟩; have B4 := Box7.below ⟨z, c0, c1, c2, c3, c4, c5, c6, cf⟩ g4; obtain ⟨yz, d0, d1, d2, d3, d4, d5, d6, df⟩ := B4))
        exact bodyPost_ret (v := .tuple #[zeroV4, .int .i64 3]) (by simp [zeroV4, results, Tryz.results17, go_sem, d0, d1, d2, d3, d4, d5, d6]) rfl ⟨rfl, by (repeat (with_reducible refine Below.setCell ?_ (by simp) _)); exact bstep (bstep (bstep (bstep (bbox1 _ _) g1) g2) g3) g4⟩
      · have a4 : decide ((A : Int) < 4 * (n : Int)) = false := decide_eq_false (by omega)
        have a5 : decide (s.size < A) = true := decide_eq_true (by omega)
        clear h2 h3
        go_enter Tryz.func17, Tryz.ntmps17
        go_wp2_with (first | ((with_reducible refine (hG2.to _).mono ?_); rintro e w1 ⟨rfl, g1⟩) | ((with_reducible refine (hG4.to _).mono ?_); rintro e w2 ⟨rfl, g2⟩) | ((with_reducible refine (hG6.to _).mono ?_); rintro e w3 ⟨rfl, g3⟩; have B3 := (((Box7.new w _ _ _ _ _ _ _ _).below g1).below g2).below g3; obtain ⟨z, c0, c1, c2, c3, c4, c5, c6, cf⟩ := B3) | ((with_reducible refine (hQ.to _).mono ?_); rintro e w4 ⟨rfl, g4⟩; have B4 := Box7.below ⟨z, c0, c1, c2, c3, c4, c5, c6, cf⟩ g4; obtain ⟨yz, d0, d1, d2, d3, d4, d5, d6, df⟩ := B4))
        exact bodyPost_ret (v := .tuple #[zeroV4, .int .i64 2]) (by simp [zeroV4, results, Tryz.results17, go_sem, d0, d1, d2, d3, d4, d5, d6]) rfl ⟨rfl, by (repeat (with_reducible refine Below.setCell ?_ (by simp) _)); exact bstep (bstep (bstep (bstep (bbox1 _ _) g1) g2) g3) g4⟩
      · have a4 : decide ((A : Int) < 4 * (n : Int)) = false := decide_eq_false (by omega)
        have a5 : decide (s.size < A) = false := decide_eq_false (by omega)
        have a6 : ((P : Int) != 0) = true := by rw [bne_iff_ne]; omega
        have a7 : ((P : Int) != 16384) = true := by rw [bne_iff_ne]; omega
        clear h2 h3 h4 h5
        go_enter Tryz.func17, Tryz.ntmps17
        go_wp2_with (first | ((with_reducible refine (hG2.to _).mono ?_); rintro e w1 ⟨rfl, g1⟩) | ((with_reducible refine (hG4.to _).mono ?_); rintro e w2 ⟨rfl, g2⟩) | ((with_reducible refine (hG6.to _).mono ?_); rintro e w3 ⟨rfl, g3⟩; have B3 := (((Box7.new w _ _ _ _ _ _ _ _).below g1).below g2).below g3; obtain ⟨z, c0, c1, c2, c3, c4, c5, c6, cf⟩ := B3) | ((with_reducible refine (hQ.to _).mono ?_); rintro e w4 ⟨rfl, g4⟩; have B4 := Box7.below ⟨z, c0, c1, c2, c3, c4, c5, c6, cf⟩ g4; obtain ⟨yz, d0, d1, d2, d3, d4, d5, d6, df⟩ := B4))
        exact bodyPost_ret (v := .tuple #[zeroV4, .int .i64 3]) (by simp [zeroV4, results, Tryz.results17, go_sem, d0, d1, d2, d3, d4, d5, d6]) rfl ⟨rfl, by (repeat (with_reducible refine Below.setCell ?_ (by simp) _)); exact bstep (bstep (bstep (bstep (bbox1 _ _) g1) g2) g3) g4⟩
      · have a4 : decide ((A : Int) < 4 * (n : Int)) = false := decide_eq_false (by omega)
        have a5 : decide (s.size < A) = false := decide_eq_false (by omega)
        have w8 : IntKind.i64.wrap (B8 : Int) = (B8 : Int) := IntWalk.i64_in _ ⟨by omega, by omega⟩
        have w9 : IntKind.i64.wrap (B9 : Int) = (B9 : Int) := IntWalk.i64_in _ ⟨by omega, by omega⟩
        have k2 := slice_mid s 12 16 (by omega) (by omega) 12 16 rfl rfl
        have k3 := slice_mid s 16 20 (by omega) (by omega) 16 20 rfl rfl
        have hc := HC.out
        have k4 := slice_mid s 20 (4 * n) (by omega) (by omega) 20 (4 * (n : Int)) rfl (by omega)
        have k5 := slice_mid s (4 * n) A (by omega) (by omega) (4 * (n : Int)) A (by omega) rfl
        rw [q1] at k2
        rw [q2] at k3
        rw [q3] at k4
        rw [q4] at k5
        clear hc
        have hp : ((P : Int) != 0) = false ∨ (((P : Int) != 0) = true ∧ ((P : Int) != 16384) = false) := by
          rw [bne_iff_ne, bne_eq_false_iff_eq, bne_eq_false_iff_eq]; omega
        clear h2 h3 h4 q1 q2 q3 q4
        rcases hp with a6 | ⟨a6, a7⟩
        all_goals
          go_enter Tryz.func17, Tryz.ntmps17
          go_wp2_with (first | ((with_reducible refine (hG2.to _).mono ?_); rintro e w1 ⟨rfl, g1⟩) | ((with_reducible refine (hG4.to _).mono ?_); rintro e w2 ⟨rfl, g2⟩) | ((with_reducible refine (hG6.to _).mono ?_); rintro e w3 ⟨rfl, g3⟩; have B3 := (((Box7.new w _ _ _ _ _ _ _ _).below g1).below g2).below g3; obtain ⟨z, c0, c1, c2, c3, c4, c5, c6, cf⟩ := B3) | ((with_reducible refine (hQ.to _).mono ?_); rintro e w4 ⟨rfl, g4⟩; have B4 := Box7.below ⟨z, c0, c1, c2, c3, c4, c5, c6, cf⟩ g4; obtain ⟨yz, d0, d1, d2, d3, d4, d5, d6, df⟩ := B4))
          go_region_held3 (fun _ => True) (trivial) (fail)
          go_wp2
          all_goals exact bodyPost_ret (v := .tuple #[v4 I B8 B9 src dst opts data, .int .i64 0]) (by simp [v4, results, Tryz.results17, go_sem, d0, d1, d2, d3, d4, d5, d6, w8, w9]) rfl ⟨rfl, by refine Below.drew ?_; (repeat (with_reducible refine Below.setCell ?_ (by simp) _)); exact bstep (bstep (bstep (bstep (bbox1 _ _) g1) g2) g3) g4⟩
end Go.Proofs.YticdmepplfgdiaaGreatDoor
