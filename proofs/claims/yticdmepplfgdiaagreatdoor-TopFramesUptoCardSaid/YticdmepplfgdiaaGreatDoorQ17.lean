/-
  What prio.Roles computes, of two ports. Conditions: none.
-/
import Derived.Test.YticdmepplfgdiaaGreatDoorQ09
import Derived.Test.YticdmepplfgdiaaGreatDoorQ03
set_option linter.unusedVariables false
set_option linter.unusedSimpArgs false
namespace Go.Proofs.YticdmepplfgdiaaGreatDoor
open Go.RowKit
/-- a port's part: 1 root, 2 designated, 3 alternate -/
def roleOf (b : Int × Vec) (bridge : Int) (i : Int) (h : Hd) : Int :=
  if i = b.1 then 1 else if h.is = false ∨ vcmp ⟨b.2.root, b.2.cost, bridge, i⟩ h.v ≤ 0 then 2 else 3
def roles2 (bridge : Int) (h0 h1 : Hd) : List Int := [roleOf (best2 bridge h0 h1) bridge 0 h0, roleOf (best2 bridge h0 h1) bridge 1 h1]
theorem roles_take (bridge : Int) (h0 h1 : Hd) (k : Nat) (hk : k < 2) : (roles2 bridge h0 h1).take (k + 1) = (roles2 bridge h0 h1).take k ++ [roleOf (best2 bridge h0 h1) bridge k (hdAt h0 h1 k)] := by
  rcases (by omega : k = 0 ∨ k = 1) with rfl | rfl <;> rfl
set_option maxRecDepth 100000 in
set_option maxHeartbeats 4000000 in
theorem roles_any (bridge : Int) (h0 h1 : Hd) (g cap : Nat) (w : World) (hg : Bx w g (h0.cells ++ h1.cells)) :
    Calls Tryz.prog 162 #[.int .u64 bridge, .slice (some ⟨g, 0, none⟩) 2 cap] w fun e w' => (∃ u uc, e = .returned (.slice (some ⟨u, 0, none⟩) 2 uc) ∧ w.heap.size ≤ u ∧ Bx w' u ((roles2 bridge h0 h1).map (Value.int .i64))) ∧ Below w.heap.size w w' := by
  obtain ⟨i0, hi, hz0, hz1, hz2⟩ := info_parts tinfo3
  have HC := Lib.hid compare_any
  have HG := Lib.hid hg
  have HB := Lib.hid (fun (r : Int × Vec) (hr : best2 bridge h0 h1 = r) => best_any bridge h0 h1 r hr g cap w hg)
  clear hg
  obtain ⟨r, hr⟩ : ∃ r, best2 bridge h0 h1 = r := ⟨_, rfl⟩
  have HR := Lib.hid hr
  clear hr
  go_enter Tryz.func162, Tryz.ntmps162
  go_wp2_with ((with_reducible refine (HB.out r HR.out).mono ?_); rintro e w1 ⟨rfl, g1⟩)
  obtain ⟨B, hB⟩ : ∃ B, B = w1.heap.size + 1 := ⟨_, rfl⟩
  have R1 : Bx (w1.alloc (.cells (vcells ⟨r.2.root, r.2.cost, bridge, r.2.port⟩).toArray 116)) w1.heap.size (vcells ⟨r.2.root, r.2.cost, bridge, r.2.port⟩) := Bx.new w1 _ _
  go_loopw [7, 20] (fun u i wr => ∃ (k : Nat) (z : Int), k ≤ 2 ∧ i = .int .i64 k ∧ Below w.heap.size w wr ∧ B ≤ wr.heap.size ∧ Bx wr w1.heap.size (vcells ⟨r.2.root, r.2.cost, bridge, z⟩) ∧ wr.ownsRow B 3 1 u ((roles2 bridge h0 h1).take k).length (((roles2 bridge h0 h1).take k).map (Value.int .i64))) (fun _ i _ => 3 - (intOf i).toNat)
  case atStart => exact ⟨0, _, Nat.zero_le _, rfl, ball1 g1 _, by rw [hB]; simp, R1, World.ownsRow_nil _ _ _ _⟩
  case round =>
    obtain ⟨k, z, hk, rfl, bel, hle, bb, own⟩ := hrel
    by_cases hlt : k < 2
    · obtain ⟨c0, c1, c2, c3, c4, c5⟩ := hd_cells (HG.out.under bel HG.out.1) k hlt
      have hs := roles_take bridge h0 h1 k hlt
      generalize hdAt h0 h1 k = H at c0 c1 c2 c3 c4 c5 hs
      obtain ⟨is, v, cost⟩ := H
      rw [HR.out] at hs
      dsimp only at c0 c1 c2 c3 c4 c5 bb
      have hcase : ((k : Int) == r.1) = true ∧ roleOf r bridge k ⟨is, v, cost⟩ = 1 ∨ ((k : Int) == r.1) = false ∧ is = false ∧ roleOf r bridge k ⟨is, v, cost⟩ = 2 ∨ ((k : Int) == r.1) = false ∧ is = true ∧ decide (vcmp ⟨r.2.root, r.2.cost, bridge, k⟩ v ≤ 0) = true ∧ roleOf r bridge k ⟨is, v, cost⟩ = 2 ∨ ((k : Int) == r.1) = false ∧ is = true ∧ decide (vcmp ⟨r.2.root, r.2.cost, bridge, k⟩ v ≤ 0) = false ∧ roleOf r bridge k ⟨is, v, cost⟩ = 3 := by
        unfold roleOf
        simp only [beq_iff_eq, beq_eq_false_iff_ne, decide_eq_true_eq, decide_eq_false_iff_not]
        by_cases q1 : (k : Int) = r.1
        · exact .inl ⟨q1, if_pos q1⟩
        · rw [if_neg q1]
          by_cases q2 : is = false
          · exact .inr (.inl ⟨q1, q2, if_pos (.inl q2)⟩)
          · have q3 : is = true := by simpa using q2
            by_cases q4 : vcmp ⟨r.2.root, r.2.cost, bridge, k⟩ v ≤ 0
            · exact .inr (.inr (.inl ⟨q1, q3, q4, if_pos (.inr q4)⟩))
            · exact .inr (.inr (.inr ⟨q1, q3, q4, if_neg (fun h => h.elim q2 q4)⟩))
      have hroom : ((roles2 bridge h0 h1).take k).length ≤ 2 := by rw [List.length_take]; show min k 2 ≤ 2; omega
      have hBr : w1.heap.size < B := by omega
      have HS := Lib.hid hs
      have HBB := Lib.hid bb
      have HO := Lib.hid own
      have HBel := Lib.hid bel
      have HL := Lib.hid hle
      have lt2 : w1.heap.size < wr.heap.size := bb.1
      have b0 := bb.get 0 _ rfl
      have b1 := bb.get 1 _ rfl
      have b2 := bb.get 2 _ rfl
      have b3 := bb.get 3 _ rfl
      have bf := bb.fz
      have nb := Nat.ne_of_lt lt2
      clear hs bb bel hle own
      have HB2 := Lib.hid hBr
      have hw1 : w.heap.size ≤ B := by have := g1.size; omega
      clear hBr
      rcases hcase with ⟨q1, hn⟩ | ⟨q1, rfl, hn⟩ | ⟨q1, rfl, q2, hn⟩ | ⟨q1, rfl, q2, hn⟩
      · have HN := Lib.hid hn
        clear hn
        have R2 := Lib.hid (((ownsRow_setCell_below HO.out (a := ⟨w1.heap.size, 3, none⟩) HB2.out (.int .i64 k)).alloc (.cells (Hd.cells ⟨is, v, cost⟩).toArray 305)).alloc (.cells #[.int .i64 1] 3))
        have X2 := Lib.hid ((((HBB.out.set (i := 3) (x := .int .i64 k) (by simp [vcells])).alloc (.cells (Hd.cells ⟨is, v, cost⟩).toArray 305)).alloc (.cells #[.int .i64 1] 3)))
        have L2 := Lib.hid (ball1 (ball1 (HBel.out.setCell (p := ⟨w1.heap.size, 3, none⟩) g1.size (.int .i64 k)) (.cells (Hd.cells ⟨is, v, cost⟩).toArray 305)) (.cells #[.int .i64 1] 3))
        go_wp2_with (at_builtin; refine push_int rfl _ _ rfl B _ _ 1 ⟨_, 0, none⟩ rfl R2.out rfl (by go_simp) (Nat.le_trans hroom (by decide)) (by have := HL.out; simp; omega) ?_; intro v' w2 hown' hg2 hB2; clear R2)
        refine ⟨⟨k + 1, k, by omega, by go_num, L2.out.trans (hg2.mono hw1), hB2, X2.out.under hg2 HB2.out, by rw [HS.out, HN.out]; exact hown'⟩, ?_⟩
        simp [intOf]; omega
      · have HN := Lib.hid hn
        clear hn
        have R2 := Lib.hid (((ownsRow_setCell_below HO.out (a := ⟨w1.heap.size, 3, none⟩) HB2.out (.int .i64 k)).alloc (.cells (Hd.cells ⟨false, v, cost⟩).toArray 305)).alloc (.cells #[.int .i64 2] 3))
        have X2 := Lib.hid ((((HBB.out.set (i := 3) (x := .int .i64 k) (by simp [vcells])).alloc (.cells (Hd.cells ⟨false, v, cost⟩).toArray 305)).alloc (.cells #[.int .i64 2] 3)))
        have L2 := Lib.hid (ball1 (ball1 (HBel.out.setCell (p := ⟨w1.heap.size, 3, none⟩) g1.size (.int .i64 k)) (.cells (Hd.cells ⟨false, v, cost⟩).toArray 305)) (.cells #[.int .i64 2] 3))
        go_wp2_with (at_builtin; refine push_int rfl _ _ rfl B _ _ 2 ⟨_, 0, none⟩ rfl R2.out rfl (by go_simp) (Nat.le_trans hroom (by decide)) (by have := HL.out; simp; omega) ?_; intro v' w2 hown' hg2 hB2; clear R2)
        refine ⟨⟨k + 1, k, by omega, by go_num, L2.out.trans (hg2.mono hw1), hB2, X2.out.under hg2 HB2.out, by rw [HS.out, HN.out]; exact hown'⟩, ?_⟩
        simp [intOf]; omega
      · have HN := Lib.hid hn
        clear hn
        have R2 := Lib.hid ((ownsRow_setCell_below HO.out (a := ⟨w1.heap.size, 3, none⟩) HB2.out (.int .i64 k)).alloc (.cells (Hd.cells ⟨true, v, cost⟩).toArray 305))
        have X2 := Lib.hid ((HBB.out.set (i := 3) (x := .int .i64 k) (by simp [vcells])).alloc (.cells (Hd.cells ⟨true, v, cost⟩).toArray 305))
        have L2 := Lib.hid (ball1 (HBel.out.setCell (p := ⟨w1.heap.size, 3, none⟩) g1.size (.int .i64 k)) (.cells (Hd.cells ⟨true, v, cost⟩).toArray 305))
        go_wp2_with (first
          | (go_at_call 106; (with_reducible refine (HC.out ⟨r.2.root, r.2.cost, bridge, k⟩ v _ rfl _).mono ?_); rintro e w3 ⟨rfl, g3⟩; have R3 := Lib.hid ((own_below R2.out g3).alloc (.cells #[.int .i64 2] 3)); have X3 := Lib.hid ((X2.out.below g3).alloc (.cells #[.int .i64 2] 3)); have L3 := Lib.hid (ball1 (bstep L2.out g3) (.cells #[.int .i64 2] 3)); have s3 := g3.size)
          | (at_builtin; refine push_int rfl _ _ rfl B _ _ 2 ⟨_, 0, none⟩ rfl R3.out rfl (by go_simp) (Nat.le_trans hroom (by decide)) (by have := HL.out; simp at s3 ⊢; omega) ?_; intro v' w4 hown' hg2 hB2; clear R3))
        refine ⟨⟨k + 1, k, by omega, by go_num, L3.out.trans (hg2.mono hw1), hB2, X3.out.under hg2 HB2.out, by rw [HS.out, HN.out]; exact hown'⟩, ?_⟩
        simp [intOf]; omega
      · have HN := Lib.hid hn
        clear hn
        have R2 := Lib.hid ((ownsRow_setCell_below HO.out (a := ⟨w1.heap.size, 3, none⟩) HB2.out (.int .i64 k)).alloc (.cells (Hd.cells ⟨true, v, cost⟩).toArray 305))
        have X2 := Lib.hid ((HBB.out.set (i := 3) (x := .int .i64 k) (by simp [vcells])).alloc (.cells (Hd.cells ⟨true, v, cost⟩).toArray 305))
        have L2 := Lib.hid (ball1 (HBel.out.setCell (p := ⟨w1.heap.size, 3, none⟩) g1.size (.int .i64 k)) (.cells (Hd.cells ⟨true, v, cost⟩).toArray 305))
        go_wp2_with (first
          | (go_at_call 106; (with_reducible refine (HC.out ⟨r.2.root, r.2.cost, bridge, k⟩ v _ rfl _).mono ?_); rintro e w3 ⟨rfl, g3⟩; have R3 := Lib.hid ((own_below R2.out g3).alloc (.cells #[.int .i64 3] 3)); have X3 := Lib.hid ((X2.out.below g3).alloc (.cells #[.int .i64 3] 3)); have L3 := Lib.hid (ball1 (bstep L2.out g3) (.cells #[.int .i64 3] 3)); have s3 := g3.size)
          | (at_builtin; refine push_int rfl _ _ rfl B _ _ 3 ⟨_, 0, none⟩ rfl R3.out rfl (by go_simp) (Nat.le_trans hroom (by decide)) (by have := HL.out; simp at s3 ⊢; omega) ?_; intro v' w4 hown' hg2 hB2; clear R3))
        refine ⟨⟨k + 1, k, by omega, by go_num, L3.out.trans (hg2.mono hw1), hB2, X3.out.under hg2 HB2.out, by rw [HS.out, HN.out]; exact hown'⟩, ?_⟩
        simp [intOf]; omega
    · have e2 : k = 2 := by omega
      subst e2
      have own2 : wr.ownsRow B 3 1 _ 2 ((roles2 bridge h0 h1).map (Value.int .i64)) := own
      have hw1 : w.heap.size ≤ B := by have := g1.size; omega
      obtain ⟨u, uc, rfl, hu, hx⟩ := row_bx own2 (by decide) (by rfl)
      clear own2
      have HI := Lib.hid hx
      have HU := Lib.hid hu
      clear hx hu
      have HBel := Lib.hid bel
      clear own bel bb
      go_wp2
      go_ret
      exact ⟨⟨_, _, rfl, Nat.le_trans hw1 HU.out, HI.out⟩, HBel.out⟩
end Go.Proofs.YticdmepplfgdiaaGreatDoor
