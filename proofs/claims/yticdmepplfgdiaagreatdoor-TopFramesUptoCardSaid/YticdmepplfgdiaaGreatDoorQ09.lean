/-
  What prio.Own, prio.Through and prio.Best compute, of two ports. Conditions: none.
-/
import Derived.Test.YticdmepplfgdiaaGreatDoorQ08
import Derived.Test.YticdmepplfgdiaaGreatDoorQ03
set_option linter.unusedVariables false
set_option linter.unusedSimpArgs false
namespace Go.Proofs.YticdmepplfgdiaaGreatDoor
open Go.RowKit
def ownV (b : Int) : Vec := ⟨b, 0, b, 0⟩
def zeroV : Vec := ⟨0, 0, 0, 0⟩
/-- what one is over a way -/
def through (v : Vec) (c : Int) : Vec × Int :=
  if c < 1 ∨ 200000000 < c ∨ v.cost < 0 ∨ 4294967295 < v.cost then (zeroV, 1) else (⟨v.root, min (v.cost + c) 4294967295, v.bridge, v.port⟩, 0)
set_option maxRecDepth 100000 in
set_option maxHeartbeats 1000000 in
theorem own_any (b : Int) (w : World) : Calls Tryz.prog 89 #[.int .u64 b] w fun e w' => e = .returned (.agg #[.int .u64 b, .int .i64 0, .int .u64 b, .int .i64 0]) ∧ Below w.heap.size w w' := by
  go_enter Tryz.func89, Tryz.ntmps89
  go_wp2
  exact bodyPost_ret (v := (ownV b).val) (by simp [results, Tryz.results89, go_sem, ownV, Vec.val]) rfl ⟨rfl, bbox1 _ _⟩
set_option maxRecDepth 100000 in
set_option maxHeartbeats 1000000 in
theorem through_in (v : Vec) (c : Int) (w : World) : Calls Tryz.prog 230 #[v.val, .int .i64 c] w fun e w' => e = .returned (.tuple #[(through v c).1.val, .int .i64 (through v c).2]) ∧ Below w.heap.size w w' := by
  have hc : (decide (c < 1) = true ∧ through v c = (zeroV, 1)) ∨ (decide (c < 1) = false ∧ decide (200000000 < c) = true ∧ through v c = (zeroV, 1)) ∨ (decide (c < 1) = false ∧ decide (200000000 < c) = false ∧ decide (v.cost < 0) = true ∧ through v c = (zeroV, 1)) ∨
      (decide (c < 1) = false ∧ decide (200000000 < c) = false ∧ decide (v.cost < 0) = false ∧ decide (4294967295 < v.cost) = true ∧ through v c = (zeroV, 1)) ∨
      (decide (c < 1) = false ∧ decide (200000000 < c) = false ∧ decide (v.cost < 0) = false ∧ decide (4294967295 < v.cost) = false ∧ wrap64 (v.cost + c) = v.cost + c ∧ through v c = (⟨v.root, min (v.cost + c) 4294967295, v.bridge, v.port⟩, 0)) := by
    unfold through
    simp only [decide_eq_true_eq, decide_eq_false_iff_not]
    by_cases h : c < 1 ∨ 200000000 < c ∨ v.cost < 0 ∨ 4294967295 < v.cost
    · rw [if_pos h]; simp only [and_true]
      omega
    · rw [if_neg h]
      simp only [not_or] at h
      exact .inr (.inr (.inr (.inr ⟨h.1, h.2.1, h.2.2.1, h.2.2.2, IntWalk.wrap64_in _ ⟨by omega, by omega⟩, rfl⟩)))
  obtain ⟨r, k, b, p⟩ := v
  unfold Vec.val
  rcases hc with ⟨c1, e⟩ | ⟨c1, c2, e⟩ | ⟨c1, c2, c3, e⟩ | ⟨c1, c2, c3, c4, e⟩ | ⟨c1, c2, c3, c4, c5, e⟩
  case inr.inr.inr.inr =>
    dsimp only at c3 c4 c5 e
    rw [e]
    clear e
    by_cases hm : k + c ≤ 4294967295
    · rw [Int.min_eq_left hm]
      go_enter Tryz.func230, Tryz.ntmps230
      go_wp2
      exact bodyPost_ret (v := .tuple #[.agg #[.int .u64 r, .int .i64 (k + c), .int .u64 b, .int .i64 p], .int .i64 0]) (by simp [results, Tryz.results230, go_sem]) rfl ⟨rfl, (bbox1 _ _).alloc (bbox1 _ _).size _⟩
    · rw [Int.min_eq_right (by omega)]
      go_enter Tryz.func230, Tryz.ntmps230
      go_wp2
      exact bodyPost_ret (v := .tuple #[.agg #[.int .u64 r, .int .i64 4294967295, .int .u64 b, .int .i64 p], .int .i64 0]) (by simp [results, Tryz.results230, go_sem]) rfl ⟨rfl, (bbox1 _ _).alloc (bbox1 _ _).size _⟩
  all_goals
    rw [e]
    clear e
    go_enter Tryz.func230, Tryz.ntmps230
    go_wp2
    exact bodyPost_ret (v := .tuple #[zeroV.val, .int .i64 1]) (by simp [results, Tryz.results230, go_sem, zeroV, Vec.val]) rfl ⟨rfl, (bbox1 _ _).alloc (bbox1 _ _).size _⟩
theorem through_any (v : Vec) (c : Int) (x : Vec) (q : Int) (h : through v c = (x, q)) (w : World) : Calls Tryz.prog 230 #[.agg #[.int .u64 v.root, .int .i64 v.cost, .int .u64 v.bridge, .int .i64 v.port], .int .i64 c] w fun e w' => e = .returned (.tuple #[.agg #[.int .u64 x.root, .int .i64 x.cost, .int .u64 x.bridge, .int .i64 x.port], .int .i64 q]) ∧ Below w.heap.size w w' := by
  have h2 := through_in v c w
  rw [h] at h2
  exact h2
/-- what a port has heard -/
structure Hd where
  is : Bool
  v : Vec
  cost : Int
def Hd.cells (h : Hd) : List Value := [.bool h.is, .int .u64 h.v.root, .int .i64 h.v.cost, .int .u64 h.v.bridge, .int .i64 h.v.port, .int .i64 h.cost]
def bestStep (bridge : Int) (a : Int × Vec) (i : Int) (h : Hd) : Int × Vec :=
  if h.is = true ∧ h.v.bridge ≠ bridge ∧ (through h.v h.cost).2 = 0 ∧ vcmp (through h.v h.cost).1 a.2 < 0 then (i, (through h.v h.cost).1) else a
def best2 (bridge : Int) (h0 h1 : Hd) : Int × Vec := bestStep bridge (bestStep bridge (-1, ownV bridge) 0 h0) 1 h1
def bestAt (bridge : Int) (h0 h1 : Hd) : Nat → Int × Vec
  | 0 => (-1, ownV bridge)
  | 1 => bestStep bridge (-1, ownV bridge) 0 h0
  | _ => best2 bridge h0 h1
def hdAt (h0 h1 : Hd) : Nat → Hd
  | 0 => h0
  | _ => h1
theorem bestAt_succ (bridge : Int) (h0 h1 : Hd) (k : Nat) (hk : k < 2) : bestAt bridge h0 h1 (k + 1) = bestStep bridge (bestAt bridge h0 h1 k) k (hdAt h0 h1 k) := by
  rcases (by omega : k = 0 ∨ k = 1) with rfl | rfl <;> rfl
theorem hd_cells {W : World} {g : Nat} {h0 h1 : Hd} (h : Bx W g (h0.cells ++ h1.cells)) (k : Nat) (hk : k < 2) :
    W.cell? ⟨g, k * 6, none⟩ = some (.bool (hdAt h0 h1 k).is) ∧ W.cell? ⟨g, k * 6 + 1, none⟩ = some (.int .u64 (hdAt h0 h1 k).v.root) ∧ W.cell? ⟨g, k * 6 + 2, none⟩ = some (.int .i64 (hdAt h0 h1 k).v.cost) ∧ W.cell? ⟨g, k * 6 + 3, none⟩ = some (.int .u64 (hdAt h0 h1 k).v.bridge) ∧ W.cell? ⟨g, k * 6 + 4, none⟩ = some (.int .i64 (hdAt h0 h1 k).v.port) ∧ W.cell? ⟨g, k * 6 + 5, none⟩ = some (.int .i64 (hdAt h0 h1 k).cost) := by
  rcases (by omega : k = 0 ∨ k = 1) with rfl | rfl
  · exact ⟨h.get 0 _ rfl, h.get 1 _ rfl, h.get 2 _ rfl, h.get 3 _ rfl, h.get 4 _ rfl, h.get 5 _ rfl⟩
  · exact ⟨h.get 6 _ rfl, h.get 7 _ rfl, h.get 8 _ rfl, h.get 9 _ rfl, h.get 10 _ rfl, h.get 11 _ rfl⟩
def vcells (v : Vec) : List Value := [.int .u64 v.root, .int .i64 v.cost, .int .u64 v.bridge, .int .i64 v.port]
set_option maxRecDepth 100000 in
set_option maxHeartbeats 4000000 in
theorem best_any (bridge : Int) (h0 h1 : Hd) (r : Int × Vec) (hr : best2 bridge h0 h1 = r) (g cap : Nat) (w : World) (hg : Bx w g (h0.cells ++ h1.cells)) :
    Calls Tryz.prog 161 #[.int .u64 bridge, .slice (some ⟨g, 0, none⟩) 2 cap] w fun e w' => e = .returned (.tuple #[.int .i64 r.1, .agg #[.int .u64 r.2.root, .int .i64 r.2.cost, .int .u64 r.2.bridge, .int .i64 r.2.port]]) ∧ Below w.heap.size w w' := by
  have HO := Lib.hid own_any
  have HT := Lib.hid through_any
  have HC := Lib.hid compare_any
  have HG := Lib.hid hg
  have HR := Lib.hid hr
  clear hg hr
  go_enter Tryz.func161, Tryz.ntmps161
  go_wp2_with ((with_reducible refine (HO.out _ _).mono ?_); rintro e w1 ⟨rfl, g1⟩)
  have B1 : Below w.heap.size w w1 := bstep (bbox1 _ _) g1
  have R1 : Bx (w1.alloc (.cells (vcells (ownV bridge)).toArray 116)) w.heap.size (vcells zeroV) := ((Bx.new w (vcells zeroV) 116).below g1).alloc _
  have lt1 : w.heap.size < w1.heap.size := Nat.lt_of_lt_of_le (by simp) g1.size
  go_loopw [6, 16] (fun p i wr => ∃ k : Nat, k ≤ 2 ∧ p = .int .i64 (bestAt bridge h0 h1 k).1 ∧ i = .int .i64 k ∧ Below w.heap.size w wr ∧ Bx wr w1.heap.size (vcells (bestAt bridge h0 h1 k).2) ∧ Bx wr w.heap.size (vcells zeroV)) (fun _ i _ => 3 - (intOf i).toNat)
  case atStart => exact ⟨0, Nat.zero_le _, rfl, rfl, ball1 B1 _, Bx.new w1 (vcells (ownV bridge)) _, R1⟩
  case round =>
    obtain ⟨k, hk, rfl, rfl, bel, bb, br⟩ := hrel
    by_cases hlt : k < 2
    · obtain ⟨c0, c1, c2, c3, c4, c5⟩ := hd_cells (HG.out.under bel HG.out.1) k hlt
      have hs := bestAt_succ bridge h0 h1 k hlt
      generalize hdAt h0 h1 k = H at c0 c1 c2 c3 c4 c5 hs
      generalize bestAt bridge h0 h1 k = A at bb hs
      obtain ⟨is, v, cost⟩ := H
      obtain ⟨P, V⟩ := A
      obtain ⟨x, q, hx⟩ : ∃ x q, through v cost = (x, q) := ⟨_, _, rfl⟩
      dsimp only at c0 c1 c2 c3 c4 c5 bb
      unfold bestStep at hs
      dsimp only at hs
      rw [hx] at hs
      dsimp only at hs
      have HX := Lib.hid hx
      clear hx
      have hcase : (is = false ∧ bestAt bridge h0 h1 (k + 1) = (P, V)) ∨ (is = true ∧ (v.bridge != bridge) = false ∧ bestAt bridge h0 h1 (k + 1) = (P, V)) ∨ (is = true ∧ (v.bridge != bridge) = true ∧ (q == 0) = false ∧ bestAt bridge h0 h1 (k + 1) = (P, V)) ∨
          (is = true ∧ (v.bridge != bridge) = true ∧ (q == 0) = true ∧ decide (vcmp x V < 0) = false ∧ bestAt bridge h0 h1 (k + 1) = (P, V)) ∨ (is = true ∧ (v.bridge != bridge) = true ∧ (q == 0) = true ∧ decide (vcmp x V < 0) = true ∧ bestAt bridge h0 h1 (k + 1) = ((k : Int), x)) := by
        rw [hs]
        simp only [bne_iff_ne, bne_eq_false_iff_eq, beq_iff_eq, beq_eq_false_iff_ne, decide_eq_true_eq, decide_eq_false_iff_not]
        by_cases h1 : is = true
        · by_cases h2 : v.bridge = bridge
          · exact .inr (.inl ⟨h1, h2, if_neg (fun h => h.2.1 h2)⟩)
          · by_cases h3 : q = 0
            · by_cases h4 : vcmp x V < 0
              · exact .inr (.inr (.inr (.inr ⟨h1, h2, h3, h4, if_pos ⟨h1, h2, h3, h4⟩⟩)))
              · exact .inr (.inr (.inr (.inl ⟨h1, h2, h3, h4, if_neg (fun h => h4 h.2.2.2)⟩)))
            · exact .inr (.inr (.inl ⟨h1, h2, h3, if_neg (fun h => h3 h.2.2.1)⟩))
        · exact .inl ⟨by simpa using h1, if_neg (fun h => h1 h.1)⟩
      clear hs
      have HB := Lib.hid bb
      have HW := Lib.hid br
      have HBel := Lib.hid bel
      have lt2 : w1.heap.size < wr.heap.size := bb.1
      have b0 := bb.get 0 _ rfl
      have b1 := bb.get 1 _ rfl
      have b2 := bb.get 2 _ rfl
      have b3 := bb.get 3 _ rfl
      clear bb br bel
      rcases hcase with ⟨rfl, hn⟩ | ⟨rfl, q1, hn⟩ | ⟨rfl, q1, q2, hn⟩ | ⟨rfl, q1, q2, q3, hn⟩ | ⟨rfl, q1, q2, q3, hn⟩
      · have HN := Lib.hid hn
        clear hn
        go_wp2_with (first | (go_at_call 230; (with_reducible refine (HT.out v cost x q HX.out _).mono ?_); rintro e w2 ⟨rfl, g2⟩; have n9 := (Bx.new wr (Hd.cells ⟨false, v, cost⟩) 305).below g2; have m0 := n9.get 0 _ rfl; have m1 := n9.get 1 _ rfl; have m2 := n9.get 2 _ rfl; have m3 := n9.get 3 _ rfl; have m4 := n9.get 4 _ rfl; have m5 := n9.get 5 _ rfl; have e9 := n9.1; clear n9; have n7 := (HB.out.alloc (.cells (Hd.cells ⟨false, v, cost⟩).toArray 305)).below g2; have p0 := n7.get 0 _ rfl; have p1 := n7.get 1 _ rfl; have p2 := n7.get 2 _ rfl; have p3 := n7.get 3 _ rfl; have e7 := n7.1; have N7 := Lib.hid n7; clear n7; have G2 := bstep (HBel.out.alloc HBel.out.size (.cells (Hd.cells ⟨false, v, cost⟩).toArray 305)) g2; have R2 := Lib.hid ((HW.out.alloc (.cells (Hd.cells ⟨false, v, cost⟩).toArray 305)).below g2)) | (go_at_call 106; (with_reducible refine (HC.out x V _ rfl _).mono ?_); rintro e w3 ⟨rfl, g3⟩))
        refine ⟨⟨k + 1, by omega, by rw [HN.out], by go_num, ball1 G2 _, by rw [HN.out]; exact N7.out.alloc _, R2.out.alloc _⟩, ?_⟩
        simp [intOf]; omega
      · have HN := Lib.hid hn
        clear hn
        go_wp2_with (first | (go_at_call 230; (with_reducible refine (HT.out v cost x q HX.out _).mono ?_); rintro e w2 ⟨rfl, g2⟩; have n9 := (Bx.new wr (Hd.cells ⟨true, v, cost⟩) 305).below g2; have m0 := n9.get 0 _ rfl; have m1 := n9.get 1 _ rfl; have m2 := n9.get 2 _ rfl; have m3 := n9.get 3 _ rfl; have m4 := n9.get 4 _ rfl; have m5 := n9.get 5 _ rfl; have e9 := n9.1; clear n9; have n7 := (HB.out.alloc (.cells (Hd.cells ⟨true, v, cost⟩).toArray 305)).below g2; have p0 := n7.get 0 _ rfl; have p1 := n7.get 1 _ rfl; have p2 := n7.get 2 _ rfl; have p3 := n7.get 3 _ rfl; have e7 := n7.1; have N7 := Lib.hid n7; clear n7; have G2 := bstep (HBel.out.alloc HBel.out.size (.cells (Hd.cells ⟨true, v, cost⟩).toArray 305)) g2; have R2 := Lib.hid ((HW.out.alloc (.cells (Hd.cells ⟨true, v, cost⟩).toArray 305)).below g2)) | (go_at_call 106; (with_reducible refine (HC.out x V _ rfl _).mono ?_); rintro e w3 ⟨rfl, g3⟩))
        refine ⟨⟨k + 1, by omega, by rw [HN.out], by go_num, ball1 G2 _, by rw [HN.out]; exact N7.out.alloc _, R2.out.alloc _⟩, ?_⟩
        simp [intOf]; omega
      · have HN := Lib.hid hn
        clear hn
        go_wp2_with (first | (go_at_call 230; (with_reducible refine (HT.out v cost x q HX.out _).mono ?_); rintro e w2 ⟨rfl, g2⟩; have n9 := (Bx.new wr (Hd.cells ⟨true, v, cost⟩) 305).below g2; have m0 := n9.get 0 _ rfl; have m1 := n9.get 1 _ rfl; have m2 := n9.get 2 _ rfl; have m3 := n9.get 3 _ rfl; have m4 := n9.get 4 _ rfl; have m5 := n9.get 5 _ rfl; have e9 := n9.1; clear n9; have n7 := (HB.out.alloc (.cells (Hd.cells ⟨true, v, cost⟩).toArray 305)).below g2; have p0 := n7.get 0 _ rfl; have p1 := n7.get 1 _ rfl; have p2 := n7.get 2 _ rfl; have p3 := n7.get 3 _ rfl; have e7 := n7.1; have N7 := Lib.hid n7; clear n7; have G2 := bstep (HBel.out.alloc HBel.out.size (.cells (Hd.cells ⟨true, v, cost⟩).toArray 305)) g2; have R2 := Lib.hid ((HW.out.alloc (.cells (Hd.cells ⟨true, v, cost⟩).toArray 305)).below g2)) | (go_at_call 106; (with_reducible refine (HC.out x V _ rfl _).mono ?_); rintro e w3 ⟨rfl, g3⟩))
        refine ⟨⟨k + 1, by omega, by rw [HN.out], by go_num, ball1 G2 _, by rw [HN.out]; exact N7.out.alloc _, R2.out.alloc _⟩, ?_⟩
        simp [intOf]; omega
      · have HN := Lib.hid hn
        clear hn
        go_wp2_with (first | (go_at_call 230; (with_reducible refine (HT.out v cost x q HX.out _).mono ?_); rintro e w2 ⟨rfl, g2⟩; have n9 := (Bx.new wr (Hd.cells ⟨true, v, cost⟩) 305).below g2; have m0 := n9.get 0 _ rfl; have m1 := n9.get 1 _ rfl; have m2 := n9.get 2 _ rfl; have m3 := n9.get 3 _ rfl; have m4 := n9.get 4 _ rfl; have m5 := n9.get 5 _ rfl; have e9 := n9.1; clear n9; have n7 := (HB.out.alloc (.cells (Hd.cells ⟨true, v, cost⟩).toArray 305)).below g2; have p0 := n7.get 0 _ rfl; have p1 := n7.get 1 _ rfl; have p2 := n7.get 2 _ rfl; have p3 := n7.get 3 _ rfl; have e7 := n7.1; have N7 := Lib.hid n7; clear n7; have G2 := bstep (HBel.out.alloc HBel.out.size (.cells (Hd.cells ⟨true, v, cost⟩).toArray 305)) g2; have R2 := Lib.hid ((HW.out.alloc (.cells (Hd.cells ⟨true, v, cost⟩).toArray 305)).below g2)) | (go_at_call 106; (with_reducible refine (HC.out x V _ rfl _).mono ?_); rintro e w3 ⟨rfl, g3⟩))
        refine ⟨⟨k + 1, by omega, by rw [HN.out], by go_num, bstep (ball1 G2 _) g3, by rw [HN.out]; exact (N7.out.alloc _).below g3, (R2.out.alloc _).below g3⟩, ?_⟩
        simp [intOf]; omega
      · have HN := Lib.hid hn
        clear hn
        go_wp2_with (first | (go_at_call 230; (with_reducible refine (HT.out v cost x q HX.out _).mono ?_); rintro e w2 ⟨rfl, g2⟩; have n9 := (Bx.new wr (Hd.cells ⟨true, v, cost⟩) 305).below g2; have m0 := n9.get 0 _ rfl; have m1 := n9.get 1 _ rfl; have m2 := n9.get 2 _ rfl; have m3 := n9.get 3 _ rfl; have m4 := n9.get 4 _ rfl; have m5 := n9.get 5 _ rfl; have e9 := n9.1; clear n9; have n7 := (HB.out.alloc (.cells (Hd.cells ⟨true, v, cost⟩).toArray 305)).below g2; have p0 := n7.get 0 _ rfl; have p1 := n7.get 1 _ rfl; have p2 := n7.get 2 _ rfl; have p3 := n7.get 3 _ rfl; have e7 := n7.1; have N7 := Lib.hid n7; clear n7; have G2 := bstep (HBel.out.alloc HBel.out.size (.cells (Hd.cells ⟨true, v, cost⟩).toArray 305)) g2; have R2 := Lib.hid ((HW.out.alloc (.cells (Hd.cells ⟨true, v, cost⟩).toArray 305)).below g2)) | (go_at_call 106; (with_reducible refine (HC.out x V _ rfl _).mono ?_); rintro e w3 ⟨rfl, g3⟩; have n3 := (N7.out.alloc (.cells (vcells x).toArray 116)).below g3; have s0 := n3.get 0 _ rfl; have s1 := n3.get 1 _ rfl; have s2 := n3.get 2 _ rfl; have s3 := n3.get 3 _ rfl; have sf := n3.fz; have N3 := Lib.hid n3; clear n3; have n4 := (Bx.new w2 (vcells x) 116).below g3; have t0 := n4.get 0 _ rfl; have t1 := n4.get 1 _ rfl; have t2 := n4.get 2 _ rfl; have t3 := n4.get 3 _ rfl; have ne := Nat.ne_of_lt N7.out.1; clear n4))
        go_region
        all_goals go_wp2
        all_goals
          refine ⟨⟨k + 1, by omega, by rw [HN.out], by go_num, ?_, ?_, ?_⟩, ?_⟩
          · exact (below4 (bstep (ball1 G2 _) g3) (Nat.le_of_lt lt1)).drew
          · rw [HN.out]
            exact Bx.set4 N3.out rfl
          · exact Bx.put4 ((R2.out.alloc _).below g3) (Nat.ne_of_lt lt1)
          · simp [intOf]; omega
    · have e2 : k = 2 := by omega
      subst e2
      have hr2 : bestAt bridge h0 h1 2 = r := HR.out
      rw [hr2] at bb
      have HR2 := Lib.hid hr2
      have b0 := bb.get 0 _ rfl
      have b1 := bb.get 1 _ rfl
      have b2 := bb.get 2 _ rfl
      have b3 := bb.get 3 _ rfl
      have r0 := br.get 0 _ rfl
      have r1 := br.get 1 _ rfl
      have r2 := br.get 2 _ rfl
      have r3 := br.get 3 _ rfl
      have rf := br.fz
      have ne := Nat.ne_of_lt lt1
      clear bb br hr2
      go_wp2
      go_region
      go_wp2
      exact bodyPost_ret (v := .tuple #[.int .i64 (bestAt bridge h0 h1 2).1, .agg #[.int .u64 r.2.root, .int .i64 r.2.cost, .int .u64 r.2.bridge, .int .i64 r.2.port]]) (by simp [results, Tryz.results161, go_sem, r0, r1, r2, r3]) rfl ⟨by rw [HR2.out], (below4 bel (Nat.le_refl _)).drew⟩
end Go.Proofs.YticdmepplfgdiaaGreatDoor
