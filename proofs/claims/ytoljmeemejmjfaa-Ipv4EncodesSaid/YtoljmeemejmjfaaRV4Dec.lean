/-
  What the document's own Decode (siphonref04) computes. Conditions: those of each case.
-/
import Derived.Test.YtoljmeemejmjfaaV4Dec
import Derived.Test.YtoljmeemejmjfaaRAt
import Derived.Test.YtoljmeemejmjfaaRCsum
namespace Go.Proofs.Ytoljmeemejmjfaa
open Go.RowKit

def RSumz (s : ByteArray) (n : Int) : Prop :=
  ∀ w : World, Calls Try.prog 20 #[.string s] w fun e w' => e = .returned (.int .i64 n) ∧ w = w'
theorem RSumz.to {s : ByteArray} {n : Int} (h : RSumz s n) (w : World) : Calls Try.prog 20 #[.string s] w fun e w' => e = .returned (.int .i64 n) ∧ w = w' := h w

set_option maxRecDepth 100000 in
theorem rv4dec_cut (s : ByteArray) (hs : s.size < 20) (w : World) :
    Calls Try.prog 11 #[.string s] w fun e w' => e = .returned (.tuple #[zeroV4, .int .i64 2]) ∧ Below w.heap.size w w' := by
  go_enter Try.func11, Try.ntmps11
  go_wp2
  exact bodyPost_ret (v := .tuple #[zeroV4, .int .i64 2]) (by simp [zeroV4, results, Try.results11, go_sem]) rfl ⟨rfl, by go_grown⟩

attribute [local go_sem ↓] Go.wp_at_zero Go.wp_at_succ
set_option maxRecDepth 100000 in
set_option maxHeartbeats 4000000 in
set_option linter.unusedSimpArgs false in
theorem rv4dec_in (s : ByteArray) (n : Nat) (v : Value) (x : Int) (hs : 20 ≤ s.size) (hl : s.size ≤ 281474976710656) (hn : n = b1 s 0 % 16) (hcase : V4Case s n v x) (w : World) :
    Calls Try.prog 11 #[.string s] w fun e w' => e = .returned (.tuple #[v, .int .i64 x]) ∧ Below w.heap.size w w' := by
  have hbt := PlainAid.get_bt s
  have hR2 : RAts s 2 2 (w2 s 2 : Nat) := rats_ok s 2 2 (by omega) (by decide) (by decide) (by omega)
  have hR4 : RAts s 4 2 (w2 s 4 : Nat) := rats_ok s 4 2 (by omega) (by decide) (by decide) (by omega)
  have hR6 : RAts s 6 2 (w2 s 6 : Nat) := rats_ok s 6 2 (by omega) (by decide) (by decide) (by omega)
  have hA := w2_lt s 2
  have hI := w2_lt s 4
  have hP := w2_lt s 6
  have hB := b1_lt s 0
  have h8 := b1_lt s 8
  have h9 := b1_lt s 9
  have e0 := bt_b1 s 0
  have e8 := bt_b1 s 8
  have e9 := bt_b1 s 9
  have i0 : (0 : Int) < (s.size : Int) := by omega
  have i8 : (8 : Int) < (s.size : Int) := by omega
  have i9 : (9 : Int) < (s.size : Int) := by omega
  have wb : IntKind.i64.wrap (PlainAid.bt s 0) = PlainAid.bt s 0 := by rw [e0]; exact IntWalk.i64_in _ ⟨by omega, by omega⟩
  have h15 : (PlainAid.bt s 0) % 16 = (n : Int) := by rw [e0, hn]; omega
  have h16 : (PlainAid.bt s 0).tmod 16 = (n : Int) := by rw [Int.tmod_eq_emod_of_nonneg (by rw [e0]; omega)]; exact h15
  have hn15 : n ≤ 15 := by omega
  have hcq := hcase
  unfold V4Case at hcq
  clear hcase hn
  obtain ⟨B0, eB⟩ : ∃ k, k = b1 s 0 := ⟨_, rfl⟩
  obtain ⟨B8, eB8⟩ : ∃ k, k = b1 s 8 := ⟨_, rfl⟩
  obtain ⟨B9, eB9⟩ : ∃ k, k = b1 s 9 := ⟨_, rfl⟩
  obtain ⟨A, eA⟩ : ∃ k, k = w2 s 2 := ⟨_, rfl⟩
  obtain ⟨I, eI⟩ : ∃ k, k = w2 s 4 := ⟨_, rfl⟩
  obtain ⟨P, eP⟩ : ∃ k, k = w2 s 6 := ⟨_, rfl⟩
  rw [← eB] at e0 hcq hB
  rw [← eA] at hR2 hA hcq
  rw [← eI] at hR4 hI hcq
  rw [← eP] at hR6 hP hcq
  rw [← eB8] at e8 h8 hcq
  rw [← eB9] at e9 h9 hcq
  clear eB eA eI eP eB8 eB9
  obtain ⟨Q, eQ⟩ : ∃ k, k = B0 / 16 := ⟨_, rfl⟩
  have ht : (PlainAid.bt s 0).tdiv 16 = (Q : Int) := by rw [e0, Int.tdiv_eq_ediv_of_nonneg (by omega), eQ]; omega
  have hq : (Q : Int) % 256 = (Q : Int) := by omega
  have hqw : IntKind.u8.wrap (Q : Int) = (Q : Int) := IntWalk.u8_in _ ⟨by omega, by omega⟩
  rw [← eQ] at hcq
  clear eQ
  rcases hcq with ⟨hc, rfl, rfl⟩ | ⟨c1, c2, c3, rfl, rfl⟩ | ⟨c1, c2, c3, r, hr, hc⟩
  · -- the form
    have hc' : ((Q : Int) != 4) = true ∨ (((Q : Int) != 4) = false ∧ decide (4 * (n : Int) < 20) = true) := by
      rw [bne_iff_ne, bne_eq_false_iff_eq, decide_eq_true_eq]; omega
    clear hc e0 e8 e9
    rcases hc' with a1 | ⟨a1, a2⟩
    all_goals
      go_enter Try.func11, Try.ntmps11
      go_wp2
      exact bodyPost_ret (v := .tuple #[zeroV4, .int .i64 3]) (by simp [zeroV4, results, Try.results11, go_sem]) rfl ⟨rfl, by go_grown⟩
  · -- cut off within the head
    have a1 : ((Q : Int) != 4) = false := by rw [bne_eq_false_iff_eq]; omega
    have a2 : decide (4 * (n : Int) < 20) = false := decide_eq_false (by omega)
    have a3 : decide ((s.size : Int) < 4 * (n : Int)) = true := decide_eq_true (by omega)
    clear e0 e8 e9 c1 c2 c3
    go_enter Try.func11, Try.ntmps11
    go_wp2
    exact bodyPost_ret (v := .tuple #[zeroV4, .int .i64 2]) (by simp [zeroV4, results, Try.results11, go_sem]) rfl ⟨rfl, by go_grown⟩
  · have a1 : ((Q : Int) != 4) = false := by rw [bne_eq_false_iff_eq]; omega
    have a2 : decide (4 * (n : Int) < 20) = false := decide_eq_false (by omega)
    have a3 : decide ((s.size : Int) < 4 * (n : Int)) = false := decide_eq_false (by omega)
    have k1 := slice_to s (4 * n) (by omega) (4 * (n : Int)) (by omega)
    have rz : r.size ≤ 60 := by rw [← hr, ByteArray.size_extract]; omega
    rw [hr] at k1
    have HC := Lib.hid (And.intro c2 c3)
    have hS : RSumz r (Cs.sum r.data.toList : Nat) := fun w => rsum_any r (by omega) w
    obtain ⟨S, eS⟩ : ∃ k, k = Cs.sum r.data.toList := ⟨_, rfl⟩
    rw [← eS] at hS hc
    clear e0 c1 c2 c3 eS hr rz
    rcases hc with ⟨h1, rfl, rfl⟩ | ⟨h1, hc⟩
    · -- the sum
      have a9 : ((S : Int) != 0) = true := by rw [bne_iff_ne]; omega
      clear h1
      go_enter Try.func11, Try.ntmps11
      go_wp2_with ((with_reducible refine (hS.to _).mono ?_); rintro e w4 ⟨rfl, rfl⟩)
      exact bodyPost_ret (v := .tuple #[zeroV4, .int .i64 4]) (by simp [zeroV4, results, Try.results11, go_sem]) rfl ⟨rfl, by go_grown⟩
    · have a9 : ((S : Int) != 0) = false := by rw [bne_eq_false_iff_eq]; omega
      clear h1
      rcases hc with ⟨h2, rfl, rfl⟩ | ⟨h2, h3, rfl, rfl⟩ | ⟨h2, h3, h4, h5, rfl, rfl⟩ | ⟨h2, h3, h4, src, dst, opts, data, q1, q2, q3, q4, rfl, rfl⟩
      · have a4 : decide ((A : Int) < 4 * (n : Int)) = true := decide_eq_true (by omega)
        clear h2
        go_enter Try.func11, Try.ntmps11
        go_wp2_with (first | ((with_reducible refine (hS.to _).mono ?_); rintro e w4 ⟨rfl, rfl⟩) | ((with_reducible refine (hR2.to _).mono ?_); rintro e w1 ⟨rfl, g1⟩; obtain ⟨z, c0, c1, c2, c3, c4, c5, c6, cf⟩ := (Box7.new w _ _ _ _ _ _ _ _).below g1) | ((with_reducible refine (hR6.to _).mono ?_); rintro e w3 ⟨rfl, g3⟩; obtain ⟨yz, d0, d1, d2, d3, d4, d5, d6, df⟩ := Box7.below ⟨z, c0, c1, c2, c3, c4, c5, c6, cf⟩ g3))
        exact bodyPost_ret (v := .tuple #[zeroV4, .int .i64 3]) (by simp [zeroV4, results, Try.results11, go_sem, c0, c1, c2, c3, c4, c5, c6]) rfl ⟨rfl, by (repeat (with_reducible refine Below.setCell ?_ (by simp) _)); exact bstep (bbox1 _ _) g1⟩
      · have a4 : decide ((A : Int) < 4 * (n : Int)) = false := decide_eq_false (by omega)
        have a5 : decide (s.size < A) = true := decide_eq_true (by omega)
        clear h2 h3
        go_enter Try.func11, Try.ntmps11
        go_wp2_with (first | ((with_reducible refine (hS.to _).mono ?_); rintro e w4 ⟨rfl, rfl⟩) | ((with_reducible refine (hR2.to _).mono ?_); rintro e w1 ⟨rfl, g1⟩; obtain ⟨z, c0, c1, c2, c3, c4, c5, c6, cf⟩ := (Box7.new w _ _ _ _ _ _ _ _).below g1) | ((with_reducible refine (hR6.to _).mono ?_); rintro e w3 ⟨rfl, g3⟩; obtain ⟨yz, d0, d1, d2, d3, d4, d5, d6, df⟩ := Box7.below ⟨z, c0, c1, c2, c3, c4, c5, c6, cf⟩ g3))
        exact bodyPost_ret (v := .tuple #[zeroV4, .int .i64 2]) (by simp [zeroV4, results, Try.results11, go_sem, c0, c1, c2, c3, c4, c5, c6]) rfl ⟨rfl, by (repeat (with_reducible refine Below.setCell ?_ (by simp) _)); exact bstep (bbox1 _ _) g1⟩
      · have a4 : decide ((A : Int) < 4 * (n : Int)) = false := decide_eq_false (by omega)
        have a5 : decide (s.size < A) = false := decide_eq_false (by omega)
        have a6 : ((P : Int) != 0) = true := by rw [bne_iff_ne]; omega
        have a7 : ((P : Int) != 16384) = true := by rw [bne_iff_ne]; omega
        clear h2 h3 h4 h5
        go_enter Try.func11, Try.ntmps11
        go_wp2_with (first | ((with_reducible refine (hS.to _).mono ?_); rintro e w4 ⟨rfl, rfl⟩) | ((with_reducible refine (hR2.to _).mono ?_); rintro e w1 ⟨rfl, g1⟩; obtain ⟨z, c0, c1, c2, c3, c4, c5, c6, cf⟩ := (Box7.new w _ _ _ _ _ _ _ _).below g1) | ((with_reducible refine (hR6.to _).mono ?_); rintro e w3 ⟨rfl, g3⟩; obtain ⟨yz, d0, d1, d2, d3, d4, d5, d6, df⟩ := Box7.below ⟨z, c0, c1, c2, c3, c4, c5, c6, cf⟩ g3))
        exact bodyPost_ret (v := .tuple #[zeroV4, .int .i64 3]) (by simp [zeroV4, results, Try.results11, go_sem, d0, d1, d2, d3, d4, d5, d6]) rfl ⟨rfl, by (repeat (with_reducible refine Below.setCell ?_ (by simp) _)); exact bstep (bstep (bbox1 _ _) g1) g3⟩
      · have a4 : decide ((A : Int) < 4 * (n : Int)) = false := decide_eq_false (by omega)
        have a5 : decide (s.size < A) = false := decide_eq_false (by omega)
        have w8 : IntKind.i64.wrap (B8 : Int) = (B8 : Int) := IntWalk.i64_in _ ⟨by omega, by omega⟩
        have w9 : IntKind.i64.wrap (B9 : Int) = (B9 : Int) := IntWalk.i64_in _ ⟨by omega, by omega⟩
        have k2 := slice_mid s 12 16 (by omega) (by omega) 12 16 rfl rfl
        have k3 := slice_mid s 16 20 (by omega) (by omega) 16 20 rfl rfl
        have hc := HC.out
        have k4 := slice_mid s 20 (4 * n) (by omega) (by omega) 20 (4 * (n : Int)) rfl (by omega)
        have k5 := slice_mid s (4 * n) A (by omega) (by omega) (4 * (n : Int)) A (by omega) rfl
        rw [q1] at k2
        rw [q2] at k3
        rw [q3] at k4
        rw [q4] at k5
        clear hc
        have hp : ((P : Int) != 0) = false ∨ (((P : Int) != 0) = true ∧ ((P : Int) != 16384) = false) := by
          rw [bne_iff_ne, bne_eq_false_iff_eq, bne_eq_false_iff_eq]; omega
        clear h2 h3 h4 q1 q2 q3 q4
        rcases hp with a6 | ⟨a6, a7⟩
        all_goals
          go_enter Try.func11, Try.ntmps11
          go_wp2_with (first | ((with_reducible refine (hS.to _).mono ?_); rintro e w4 ⟨rfl, rfl⟩) | ((with_reducible refine (hR2.to _).mono ?_); rintro e w1 ⟨rfl, g1⟩; obtain ⟨z, c0, c1, c2, c3, c4, c5, c6, cf⟩ := (Box7.new w _ _ _ _ _ _ _ _).below g1) | ((with_reducible refine (hR6.to _).mono ?_); rintro e w3 ⟨rfl, g3⟩; obtain ⟨yz, d0, d1, d2, d3, d4, d5, d6, df⟩ := Box7.below ⟨z, c0, c1, c2, c3, c4, c5, c6, cf⟩ g3))
          have B3 : Box7 w3 w.heap.size _ _ _ _ _ _ _ := ⟨yz, d0, d1, d2, d3, d4, d5, d6, df⟩
          clear c0 c1 c2 c3 c4 c5 c6 cf d0 d1 d2 d3 d4 d5 d6 df
          go_region_held3 (fun _ => True) (trivial) (first | ((with_reducible refine (hR4.to w3.drew).mono ?_); rintro e w5 ⟨rfl, g5⟩; obtain ⟨xz, f0, f1, f2, f3, f4, f5, f6, ff⟩ := B3.drew.below g5))
          all_goals go_wp2
          all_goals exact bodyPost_ret (v := .tuple #[v4 I B8 B9 src dst opts data, .int .i64 0]) (by simp [v4, results, Try.results11, go_sem, f0, f1, f2, f3, f4, f5, f6, w8, w9]) rfl ⟨rfl, by (repeat (with_reducible refine Below.setCell ?_ (by simp) _)); exact bstep (bstep (bstep (bbox1 _ _) g1) g3).drew g5⟩
end Go.Proofs.Ytoljmeemejmjfaa
