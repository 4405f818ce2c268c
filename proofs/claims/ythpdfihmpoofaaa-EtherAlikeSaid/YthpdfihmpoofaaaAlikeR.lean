/-
  The walk of the region in which 'EtherAlike' makes its four arrays. Conditions: none.
-/
import Derived.Test.YthpdfihmpoofaaaAlikeI
import Derived.Test.YthpdfihmpoofaaaLaw03
import Derived.Test.YthpdfihmpoofaaaAlikeT
import Derived.Deep.DeepCutAuto
import Derived.Deep.CutRange
namespace Go.Proofs.Ythpdfihmpoofaaa
open Go.RowKit

theorem wpOp_take {P : Program} {ops : Array Oper} {Q : Exit → Act → World → Prop} {i : Nat} {K : Act → World → Prop} {a : Act} {w : World} {o : Oper} (ho : ops[i]? = some o) (hg : o.guard = none) (h : o.wp P a w K Q) : wpOp P ops Q i K a w := by
  unfold wpOp
  rw [ho]
  simp only [Region.wanted, hg]
  exact .inl h

theorem AFin.of {n0 : Nat} {w W : World} {ms A B C D z0 z1 z2 z3 : List UInt8} {p0 p1 p2 p3 : Value} (hG : AG n0 w ms W) (a0 : AV n0 W true true p0 z0 A) (a1 : AV n0 W true true p1 z1 B) (a2 : AV n0 W true true p2 z2 C) (a3 : AV n0 W true true p3 z3 D)
    (n01 : AN true true p0 p1) (n02 : AN true true p0 p2) (n03 : AN true true p0 p3) (n12 : AN true true p1 p2) (n13 : AN true true p1 p3) (n23 : AN true true p2 p3) :
    ∃ g0 g1 g2 g3, p0 = .pointer (some ⟨g0, 0, none⟩) ∧ p1 = .pointer (some ⟨g1, 0, none⟩) ∧ p2 = .pointer (some ⟨g2, 0, none⟩) ∧ p3 = .pointer (some ⟨g3, 0, none⟩) ∧ AFin n0 w A B C D g0 g1 g2 g3 W := by
  obtain ⟨g0, rfl, x0, y0, b0⟩ := a0.2 rfl
  obtain ⟨g1, rfl, x1, y1, b1⟩ := a1.2 rfl
  obtain ⟨g2, rfl, x2, y2, b2⟩ := a2.2 rfl
  obtain ⟨g3, rfl, x3, y3, b3⟩ := a3.2 rfl
  exact ⟨g0, g1, g2, g3, rfl, rfl, rfl, rfl, hG.1, ⟨x0, x1, x2, x3⟩, ⟨y0, y1, y2, y3⟩, b0, b1, b2, b3, fun e => n01 rfl rfl (by rw [e]), fun e => n02 rfl rfl (by rw [e]), fun e => n03 rfl rfl (by rw [e]), fun e => n12 rfl rfl (by rw [e]), fun e => n13 rfl rfl (by rw [e]), fun e => n23 rfl rfl (by rw [e])⟩

/-- what holds at every moment of the region -/
def AI (p : Value) (n0 : Nat) (w : World) (ms A B C D : List UInt8) (listed : Array Bool) (a : Act) (W : World) : Prop :=
  ∃ l0 l1 l2 l3 l4 l5 l6 l7 l8 l9 l10 l11 l12 l13 l14 l15 : Bool, listed = #[l0, l1, l2, l3, l4, l5, l6, l7, l8, l9, l10, l11, l12, l13, l14, l15] ∧ ∃ z0 z1 z2 z3 u0 v0 u1 v1 u2 v2 u3 v3 : Value, a = alF p n0 z0 z1 z2 z3 u0 v0 u1 v1 u2 v2 u3 v3 ∧ AG n0 w ms W ∧
    (l0 = true → u0 = .pointer (some ⟨n0, 0, none⟩)) ∧ (l1 = true → v0 = arrV A) ∧ (l2 = true → u1 = .pointer (some ⟨n0, 4, none⟩)) ∧ (l3 = true → v1 = arrV B) ∧
    (l4 = true → u2 = .pointer (some ⟨n0, 8, none⟩)) ∧ (l5 = true → v2 = arrV C) ∧ (l6 = true → u3 = .pointer (some ⟨n0, 24, none⟩)) ∧ (l7 = true → v3 = arrV D) ∧
    AV n0 W l8 l12 z0 (List.replicate 4 0) A ∧ AV n0 W l9 l13 z1 (List.replicate 4 0) B ∧ AV n0 W l10 l14 z2 (List.replicate 16 0) C ∧ AV n0 W l11 l15 z3 (List.replicate 16 0) D ∧
    AN l8 l9 z0 z1 ∧ AN l8 l10 z0 z2 ∧ AN l8 l11 z0 z3 ∧ AN l9 l10 z1 z2 ∧ AN l9 l11 z1 z3 ∧ AN l10 l11 z2 z3

set_option maxRecDepth 100000 in
set_option maxHeartbeats 2000000 in
theorem box40 (m0 m1 m2 m3 m4 m5 m6 m7 m8 m9 m10 m11 m12 m13 m14 m15 m16 m17 m18 m19 m20 m21 m22 m23 m24 m25 m26 m27 m28 m29 m30 m31 m32 m33 m34 m35 m36 m37 m38 m39 : UInt8) (w : World) (t : TypeId) : ∀ j, j < 40 → (w.alloc (.cells #[.int .u8 m0.toNat, .int .u8 m1.toNat, .int .u8 m2.toNat, .int .u8 m3.toNat, .int .u8 m4.toNat, .int .u8 m5.toNat, .int .u8 m6.toNat, .int .u8 m7.toNat, .int .u8 m8.toNat, .int .u8 m9.toNat, .int .u8 m10.toNat, .int .u8 m11.toNat, .int .u8 m12.toNat, .int .u8 m13.toNat, .int .u8 m14.toNat, .int .u8 m15.toNat, .int .u8 m16.toNat, .int .u8 m17.toNat, .int .u8 m18.toNat, .int .u8 m19.toNat, .int .u8 m20.toNat, .int .u8 m21.toNat, .int .u8 m22.toNat, .int .u8 m23.toNat, .int .u8 m24.toNat, .int .u8 m25.toNat, .int .u8 m26.toNat, .int .u8 m27.toNat, .int .u8 m28.toNat, .int .u8 m29.toNat, .int .u8 m30.toNat, .int .u8 m31.toNat, .int .u8 m32.toNat, .int .u8 m33.toNat, .int .u8 m34.toNat, .int .u8 m35.toNat, .int .u8 m36.toNat, .int .u8 m37.toNat, .int .u8 m38.toNat, .int .u8 m39.toNat] t)).cell? ⟨w.heap.size, j, none⟩ = some (.int .u8 (([m0, m1, m2, m3, m4, m5, m6, m7, m8, m9, m10, m11, m12, m13, m14, m15, m16, m17, m18, m19, m20, m21, m22, m23, m24, m25, m26, m27, m28, m29, m30, m31, m32, m33, m34, m35, m36, m37, m38, m39] : List UInt8).getD j 0).toNat) := by
  intro j hj
  have := (show j = 0 ∨ j = 1 ∨ j = 2 ∨ j = 3 ∨ j = 4 ∨ j = 5 ∨ j = 6 ∨ j = 7 ∨ j = 8 ∨ j = 9 ∨ j = 10 ∨ j = 11 ∨ j = 12 ∨ j = 13 ∨ j = 14 ∨ j = 15 ∨ j = 16 ∨ j = 17 ∨ j = 18 ∨ j = 19 ∨ j = 20 ∨ j = 21 ∨ j = 22 ∨ j = 23 ∨ j = 24 ∨ j = 25 ∨ j = 26 ∨ j = 27 ∨ j = 28 ∨ j = 29 ∨ j = 30 ∨ j = 31 ∨ j = 32 ∨ j = 33 ∨ j = 34 ∨ j = 35 ∨ j = 36 ∨ j = 37 ∨ j = 38 ∨ j = 39 by omega)
  rcases this with rfl | rfl | rfl | rfl | rfl | rfl | rfl | rfl | rfl | rfl | rfl | rfl | rfl | rfl | rfl | rfl | rfl | rfl | rfl | rfl | rfl | rfl | rfl | rfl | rfl | rfl | rfl | rfl | rfl | rfl | rfl | rfl | rfl | rfl | rfl | rfl | rfl | rfl | rfl | rfl <;> simp [go_sem]

set_option maxRecDepth 100000 in
set_option maxHeartbeats 16000000 in
theorem alike_t (m0 m1 m2 m3 m4 m5 m6 m7 m8 m9 m10 m11 m12 m13 m14 m15 m16 m17 m18 m19 m20 m21 m22 m23 m24 m25 m26 m27 m28 m29 m30 m31 m32 m33 m34 m35 m36 m37 m38 m39 : UInt8) (w : World) :
    Calls Try.prog 8 #[.agg #[.int .u8 m0.toNat, .int .u8 m1.toNat, .int .u8 m2.toNat, .int .u8 m3.toNat, .int .u8 m4.toNat, .int .u8 m5.toNat, .int .u8 m6.toNat, .int .u8 m7.toNat, .int .u8 m8.toNat, .int .u8 m9.toNat, .int .u8 m10.toNat, .int .u8 m11.toNat, .int .u8 m12.toNat, .int .u8 m13.toNat, .int .u8 m14.toNat, .int .u8 m15.toNat, .int .u8 m16.toNat, .int .u8 m17.toNat, .int .u8 m18.toNat, .int .u8 m19.toNat, .int .u8 m20.toNat, .int .u8 m21.toNat, .int .u8 m22.toNat, .int .u8 m23.toNat, .int .u8 m24.toNat, .int .u8 m25.toNat, .int .u8 m26.toNat, .int .u8 m27.toNat, .int .u8 m28.toNat, .int .u8 m29.toNat, .int .u8 m30.toNat, .int .u8 m31.toNat, .int .u8 m32.toNat, .int .u8 m33.toNat, .int .u8 m34.toNat, .int .u8 m35.toNat, .int .u8 m36.toNat, .int .u8 m37.toNat, .int .u8 m38.toNat, .int .u8 m39.toNat]] w fun e w' => e = .returned (.bool true) ∧ Below w.heap.size w w' := by
  go_enter Try.func8, Try.ntmps8
  go_upto_region 1 with fail
  go_cut [3, 4, 5, 6] from 17 to 24 (fun s3 s4 s5 s6 wx => ∃ g0 g1 g2 g3, s3 = .pointer (some ⟨g0, 0, none⟩) ∧ s4 = .pointer (some ⟨g1, 0, none⟩) ∧ s5 = .pointer (some ⟨g2, 0, none⟩) ∧ s6 = .pointer (some ⟨g3, 0, none⟩) ∧ AFin w.heap.size w [m0, m1, m2, m3] [m4, m5, m6, m7] [m8, m9, m10, m11, m12, m13, m14, m15, m16, m17, m18, m19, m20, m21, m22, m23] [m24, m25, m26, m27, m28, m29, m30, m31, m32, m33, m34, m35, m36, m37, m38, m39] g0 g1 g2 g3 wx)
  case rest =>
    rename_i K0 hK
    obtain ⟨g0, g1, g2, g3, rfl, rfl, rfl, rfl, hF⟩ := hcut
    exact hK _ _ (alike_rest m0 m1 m2 m3 m4 m5 m6 m7 m8 m9 m10 m11 m12 m13 m14 m15 m16 m17 m18 m19 m20 m21 m22 m23 m24 m25 m26 m27 m28 m29 m30 m31 m32 m33 m34 m35 m36 m37 m38 m39 w wc g0 g1 g2 g3 _ _ _ _ _ _ _ _ hF)
  case first =>
  refine wp_region_any (by kernel_rfl) ?_
  refine wpAny_inv (AI (.agg #[.int .u8 m0.toNat, .int .u8 m1.toNat, .int .u8 m2.toNat, .int .u8 m3.toNat, .int .u8 m4.toNat, .int .u8 m5.toNat, .int .u8 m6.toNat, .int .u8 m7.toNat, .int .u8 m8.toNat, .int .u8 m9.toNat, .int .u8 m10.toNat, .int .u8 m11.toNat, .int .u8 m12.toNat, .int .u8 m13.toNat, .int .u8 m14.toNat, .int .u8 m15.toNat, .int .u8 m16.toNat, .int .u8 m17.toNat, .int .u8 m18.toNat, .int .u8 m19.toNat, .int .u8 m20.toNat, .int .u8 m21.toNat, .int .u8 m22.toNat, .int .u8 m23.toNat, .int .u8 m24.toNat, .int .u8 m25.toNat, .int .u8 m26.toNat, .int .u8 m27.toNat, .int .u8 m28.toNat, .int .u8 m29.toNat, .int .u8 m30.toNat, .int .u8 m31.toNat, .int .u8 m32.toNat, .int .u8 m33.toNat, .int .u8 m34.toNat, .int .u8 m35.toNat, .int .u8 m36.toNat, .int .u8 m37.toNat, .int .u8 m38.toNat, .int .u8 m39.toNat]) w.heap.size w [m0, m1, m2, m3, m4, m5, m6, m7, m8, m9, m10, m11, m12, m13, m14, m15, m16, m17, m18, m19, m20, m21, m22, m23, m24, m25, m26, m27, m28, m29, m30, m31, m32, m33, m34, m35, m36, m37, m38, m39] [m0, m1, m2, m3] [m4, m5, m6, m7] [m8, m9, m10, m11, m12, m13, m14, m15, m16, m17, m18, m19, m20, m21, m22, m23] [m24, m25, m26, m27, m28, m29, m30, m31, m32, m33, m34, m35, m36, m37, m38, m39]) ?alstep ?alfin (fun i a w K K' h => wpOp_mono h) _ _ _ _ ?alpro ?albeg
  case alpro => decide
  case albeg =>
    refine ⟨false, false, false, false, false, false, false, false, false, false, false, false, false, false, false, false, rfl, undef, undef, undef, undef, undef, undef, undef, undef, undef, undef, undef, undef, rfl, ⟨(bbox1 _ _).drew, by simp, ?_⟩, ?_⟩
    · exact fun j hj => box40 m0 m1 m2 m3 m4 m5 m6 m7 m8 m9 m10 m11 m12 m13 m14 m15 m16 m17 m18 m19 m20 m21 m22 m23 m24 m25 m26 m27 m28 m29 m30 m31 m32 m33 m34 m35 m36 m37 m38 m39 w 37 j hj
    · refine ⟨?_, ?_, ?_, ?_, ?_, ?_, ?_, ?_, ?_, ?_, ?_, ?_, ?_, ?_, ?_, ?_, ?_, ?_⟩
      all_goals first | (intro h; cases h; done) | exact ⟨(fun h => by cases h), (fun h => by cases h)⟩
  case alstep =>
    rintro listed a W i ⟨l0, l1, l2, l3, l4, l5, l6, l7, l8, l9, l10, l11, l12, l13, l14, l15, rfl, z0, z1, z2, z3, u0, v0, u1, v1, u2, v2, u3, v3, rfl, hG, h0, h1, h2, h3, h4, h5, h6, h7, a0, a1, a2, a3, n01, n02, n03, n12, n13, n23⟩ hi
    rw [Region.ready, List.mem_filter] at hi
    obtain ⟨hr, hi⟩ := hi
    have hr : i < 16 := List.mem_range.1 hr
    rcases (by omega : i = 0 ∨ i = 1 ∨ i = 2 ∨ i = 3 ∨ i = 4 ∨ i = 5 ∨ i = 6 ∨ i = 7 ∨ i = 8 ∨ i = 9 ∨ i = 10 ∨ i = 11 ∨ i = 12 ∨ i = 13 ∨ i = 14 ∨ i = 15) with rfl | rfl | rfl | rfl | rfl | rfl | rfl | rfl | rfl | rfl | rfl | rfl | rfl | rfl | rfl | rfl
    · simp [Region.binds] at hi
      clear hi
      refine wpOp_take rfl rfl ?_
      unfold alF
      go_simp
      exact ⟨true, l1, l2, l3, l4, l5, l6, l7, l8, l9, l10, l11, l12, l13, l14, l15, rfl, z0, z1, z2, z3, (.pointer (some ⟨w.heap.size, 0, none⟩)), v0, u1, v1, u2, v2, u3, v3, rfl, hG, fun _ => rfl, h1, h2, h3, h4, h5, h6, h7, a0, a1, a2, a3, n01, n02, n03, n12, n13, n23⟩
    · simp [Region.binds] at hi
      obtain ⟨-, rfl⟩ := hi
      have e := h0 rfl
      subst e
      have c0 : W.cell? ⟨w.heap.size, 0, none⟩ = some (.int .u8 m0.toNat) := hG.2.2 0 (by decide)
      have c1 : W.cell? ⟨w.heap.size, 1, none⟩ = some (.int .u8 m1.toNat) := hG.2.2 1 (by decide)
      have c2 : W.cell? ⟨w.heap.size, 2, none⟩ = some (.int .u8 m2.toNat) := hG.2.2 2 (by decide)
      have c3 : W.cell? ⟨w.heap.size, 3, none⟩ = some (.int .u8 m3.toNat) := hG.2.2 3 (by decide)
      refine wpOp_take rfl rfl ?_
      unfold alF
      go_simp
      exact ⟨true, true, l2, l3, l4, l5, l6, l7, l8, l9, l10, l11, l12, l13, l14, l15, rfl, z0, z1, z2, z3, _, (arrV [m0, m1, m2, m3]), u1, v1, u2, v2, u3, v3, rfl, hG, h0, fun _ => rfl, h2, h3, h4, h5, h6, h7, a0, a1, a2, a3, n01, n02, n03, n12, n13, n23⟩
    · simp [Region.binds] at hi
      clear hi
      refine wpOp_take rfl rfl ?_
      unfold alF
      go_simp
      exact ⟨l0, l1, true, l3, l4, l5, l6, l7, l8, l9, l10, l11, l12, l13, l14, l15, rfl, z0, z1, z2, z3, u0, v0, (.pointer (some ⟨w.heap.size, 4, none⟩)), v1, u2, v2, u3, v3, rfl, hG, h0, h1, fun _ => rfl, h3, h4, h5, h6, h7, a0, a1, a2, a3, n01, n02, n03, n12, n13, n23⟩
    · simp [Region.binds] at hi
      obtain ⟨-, rfl⟩ := hi
      have e := h2 rfl
      subst e
      have c0 : W.cell? ⟨w.heap.size, 4, none⟩ = some (.int .u8 m4.toNat) := hG.2.2 4 (by decide)
      have c1 : W.cell? ⟨w.heap.size, 5, none⟩ = some (.int .u8 m5.toNat) := hG.2.2 5 (by decide)
      have c2 : W.cell? ⟨w.heap.size, 6, none⟩ = some (.int .u8 m6.toNat) := hG.2.2 6 (by decide)
      have c3 : W.cell? ⟨w.heap.size, 7, none⟩ = some (.int .u8 m7.toNat) := hG.2.2 7 (by decide)
      refine wpOp_take rfl rfl ?_
      unfold alF
      go_simp
      exact ⟨l0, l1, true, true, l4, l5, l6, l7, l8, l9, l10, l11, l12, l13, l14, l15, rfl, z0, z1, z2, z3, u0, v0, _, (arrV [m4, m5, m6, m7]), u2, v2, u3, v3, rfl, hG, h0, h1, h2, fun _ => rfl, h4, h5, h6, h7, a0, a1, a2, a3, n01, n02, n03, n12, n13, n23⟩
    · simp [Region.binds] at hi
      clear hi
      refine wpOp_take rfl rfl ?_
      unfold alF
      go_simp
      exact ⟨l0, l1, l2, l3, true, l5, l6, l7, l8, l9, l10, l11, l12, l13, l14, l15, rfl, z0, z1, z2, z3, u0, v0, u1, v1, (.pointer (some ⟨w.heap.size, 8, none⟩)), v2, u3, v3, rfl, hG, h0, h1, h2, h3, fun _ => rfl, h5, h6, h7, a0, a1, a2, a3, n01, n02, n03, n12, n13, n23⟩
    · simp [Region.binds] at hi
      obtain ⟨-, rfl⟩ := hi
      have e := h4 rfl
      subst e
      have c0 : W.cell? ⟨w.heap.size, 8, none⟩ = some (.int .u8 m8.toNat) := hG.2.2 8 (by decide)
      have c1 : W.cell? ⟨w.heap.size, 9, none⟩ = some (.int .u8 m9.toNat) := hG.2.2 9 (by decide)
      have c2 : W.cell? ⟨w.heap.size, 10, none⟩ = some (.int .u8 m10.toNat) := hG.2.2 10 (by decide)
      have c3 : W.cell? ⟨w.heap.size, 11, none⟩ = some (.int .u8 m11.toNat) := hG.2.2 11 (by decide)
      have c4 : W.cell? ⟨w.heap.size, 12, none⟩ = some (.int .u8 m12.toNat) := hG.2.2 12 (by decide)
      have c5 : W.cell? ⟨w.heap.size, 13, none⟩ = some (.int .u8 m13.toNat) := hG.2.2 13 (by decide)
      have c6 : W.cell? ⟨w.heap.size, 14, none⟩ = some (.int .u8 m14.toNat) := hG.2.2 14 (by decide)
      have c7 : W.cell? ⟨w.heap.size, 15, none⟩ = some (.int .u8 m15.toNat) := hG.2.2 15 (by decide)
      have c8 : W.cell? ⟨w.heap.size, 16, none⟩ = some (.int .u8 m16.toNat) := hG.2.2 16 (by decide)
      have c9 : W.cell? ⟨w.heap.size, 17, none⟩ = some (.int .u8 m17.toNat) := hG.2.2 17 (by decide)
      have c10 : W.cell? ⟨w.heap.size, 18, none⟩ = some (.int .u8 m18.toNat) := hG.2.2 18 (by decide)
      have c11 : W.cell? ⟨w.heap.size, 19, none⟩ = some (.int .u8 m19.toNat) := hG.2.2 19 (by decide)
      have c12 : W.cell? ⟨w.heap.size, 20, none⟩ = some (.int .u8 m20.toNat) := hG.2.2 20 (by decide)
      have c13 : W.cell? ⟨w.heap.size, 21, none⟩ = some (.int .u8 m21.toNat) := hG.2.2 21 (by decide)
      have c14 : W.cell? ⟨w.heap.size, 22, none⟩ = some (.int .u8 m22.toNat) := hG.2.2 22 (by decide)
      have c15 : W.cell? ⟨w.heap.size, 23, none⟩ = some (.int .u8 m23.toNat) := hG.2.2 23 (by decide)
      refine wpOp_take rfl rfl ?_
      unfold alF
      go_simp
      exact ⟨l0, l1, l2, l3, true, true, l6, l7, l8, l9, l10, l11, l12, l13, l14, l15, rfl, z0, z1, z2, z3, u0, v0, u1, v1, _, (arrV [m8, m9, m10, m11, m12, m13, m14, m15, m16, m17, m18, m19, m20, m21, m22, m23]), u3, v3, rfl, hG, h0, h1, h2, h3, h4, fun _ => rfl, h6, h7, a0, a1, a2, a3, n01, n02, n03, n12, n13, n23⟩
    · simp [Region.binds] at hi
      clear hi
      refine wpOp_take rfl rfl ?_
      unfold alF
      go_simp
      exact ⟨l0, l1, l2, l3, l4, l5, true, l7, l8, l9, l10, l11, l12, l13, l14, l15, rfl, z0, z1, z2, z3, u0, v0, u1, v1, u2, v2, (.pointer (some ⟨w.heap.size, 24, none⟩)), v3, rfl, hG, h0, h1, h2, h3, h4, h5, fun _ => rfl, h7, a0, a1, a2, a3, n01, n02, n03, n12, n13, n23⟩
    · simp [Region.binds] at hi
      obtain ⟨-, rfl⟩ := hi
      have e := h6 rfl
      subst e
      have c0 : W.cell? ⟨w.heap.size, 24, none⟩ = some (.int .u8 m24.toNat) := hG.2.2 24 (by decide)
      have c1 : W.cell? ⟨w.heap.size, 25, none⟩ = some (.int .u8 m25.toNat) := hG.2.2 25 (by decide)
      have c2 : W.cell? ⟨w.heap.size, 26, none⟩ = some (.int .u8 m26.toNat) := hG.2.2 26 (by decide)
      have c3 : W.cell? ⟨w.heap.size, 27, none⟩ = some (.int .u8 m27.toNat) := hG.2.2 27 (by decide)
      have c4 : W.cell? ⟨w.heap.size, 28, none⟩ = some (.int .u8 m28.toNat) := hG.2.2 28 (by decide)
      have c5 : W.cell? ⟨w.heap.size, 29, none⟩ = some (.int .u8 m29.toNat) := hG.2.2 29 (by decide)
      have c6 : W.cell? ⟨w.heap.size, 30, none⟩ = some (.int .u8 m30.toNat) := hG.2.2 30 (by decide)
      have c7 : W.cell? ⟨w.heap.size, 31, none⟩ = some (.int .u8 m31.toNat) := hG.2.2 31 (by decide)
      have c8 : W.cell? ⟨w.heap.size, 32, none⟩ = some (.int .u8 m32.toNat) := hG.2.2 32 (by decide)
      have c9 : W.cell? ⟨w.heap.size, 33, none⟩ = some (.int .u8 m33.toNat) := hG.2.2 33 (by decide)
      have c10 : W.cell? ⟨w.heap.size, 34, none⟩ = some (.int .u8 m34.toNat) := hG.2.2 34 (by decide)
      have c11 : W.cell? ⟨w.heap.size, 35, none⟩ = some (.int .u8 m35.toNat) := hG.2.2 35 (by decide)
      have c12 : W.cell? ⟨w.heap.size, 36, none⟩ = some (.int .u8 m36.toNat) := hG.2.2 36 (by decide)
      have c13 : W.cell? ⟨w.heap.size, 37, none⟩ = some (.int .u8 m37.toNat) := hG.2.2 37 (by decide)
      have c14 : W.cell? ⟨w.heap.size, 38, none⟩ = some (.int .u8 m38.toNat) := hG.2.2 38 (by decide)
      have c15 : W.cell? ⟨w.heap.size, 39, none⟩ = some (.int .u8 m39.toNat) := hG.2.2 39 (by decide)
      refine wpOp_take rfl rfl ?_
      unfold alF
      go_simp
      exact ⟨l0, l1, l2, l3, l4, l5, true, true, l8, l9, l10, l11, l12, l13, l14, l15, rfl, z0, z1, z2, z3, u0, v0, u1, v1, u2, v2, _, (arrV [m24, m25, m26, m27, m28, m29, m30, m31, m32, m33, m34, m35, m36, m37, m38, m39]), rfl, hG, h0, h1, h2, h3, h4, h5, h6, fun _ => rfl, a0, a1, a2, a3, n01, n02, n03, n12, n13, n23⟩
    · simp [Region.binds] at hi
      subst hi
      refine wpOp_take rfl rfl ?_
      unfold alF
      go_simp
      exact ⟨l0, l1, l2, l3, l4, l5, l6, l7, true, l9, l10, l11, l12, l13, l14, l15, rfl, _, z1, z2, z3, u0, v0, u1, v1, u2, v2, u3, v3, rfl, hG.alloc _, h0, h1, h2, h3, h4, h5, h6, h7, a0.new hG.2.1, a1.alloc _, a2.alloc _, a3.alloc _, (AN.fresh a1 true).symm, (AN.fresh a2 true).symm, (AN.fresh a3 true).symm, n12, n13, n23⟩
    · simp [Region.binds] at hi
      subst hi
      refine wpOp_take rfl rfl ?_
      unfold alF
      go_simp
      exact ⟨l0, l1, l2, l3, l4, l5, l6, l7, l8, true, l10, l11, l12, l13, l14, l15, rfl, z0, _, z2, z3, u0, v0, u1, v1, u2, v2, u3, v3, rfl, hG.alloc _, h0, h1, h2, h3, h4, h5, h6, h7, a0.alloc _, a1.new hG.2.1, a2.alloc _, a3.alloc _, AN.fresh a0 true, n02, n03, (AN.fresh a2 true).symm, (AN.fresh a3 true).symm, n23⟩
    · simp [Region.binds] at hi
      subst hi
      refine wpOp_take rfl rfl ?_
      unfold alF
      go_simp
      exact ⟨l0, l1, l2, l3, l4, l5, l6, l7, l8, l9, true, l11, l12, l13, l14, l15, rfl, z0, z1, _, z3, u0, v0, u1, v1, u2, v2, u3, v3, rfl, hG.alloc _, h0, h1, h2, h3, h4, h5, h6, h7, a0.alloc _, a1.alloc _, a2.new hG.2.1, a3.alloc _, n01, AN.fresh a0 true, n03, AN.fresh a1 true, n13, (AN.fresh a3 true).symm⟩
    · simp [Region.binds] at hi
      subst hi
      refine wpOp_take rfl rfl ?_
      unfold alF
      go_simp
      exact ⟨l0, l1, l2, l3, l4, l5, l6, l7, l8, l9, l10, true, l12, l13, l14, l15, rfl, z0, z1, z2, _, u0, v0, u1, v1, u2, v2, u3, v3, rfl, hG.alloc _, h0, h1, h2, h3, h4, h5, h6, h7, a0.alloc _, a1.alloc _, a2.alloc _, a3.new hG.2.1, n01, n02, AN.fresh a0 true, n12, AN.fresh a1 true, AN.fresh a2 true⟩
    · simp [Region.binds] at hi
      have hT : l0 = true ∧ l1 = true ∧ l8 = true ∧ l9 = true ∧ l10 = true ∧ l11 = true := by simp [hi]
      have hst : l12 = false := by simp [hi]
      clear hi
      obtain ⟨rfl, rfl, rfl, rfl, rfl, rfl⟩ := hT
      subst hst
      obtain ⟨g, rfl, g1, g2, gb⟩ := a0.2 rfl
      have e := h1 rfl
      subst e
      rw [if_neg (by decide)] at gb
      have c0 : W.cell? ⟨g, 0, none⟩ = some (.int .u8 0) := (gb 0 (by decide)).1
      have f0 : W.frozen? ⟨g, 0, none⟩ = false := (gb 0 (by decide)).2
      have c1 : W.cell? ⟨g, 1, none⟩ = some (.int .u8 0) := (gb 1 (by decide)).1
      have f1 : W.frozen? ⟨g, 1, none⟩ = false := (gb 1 (by decide)).2
      have c2 : W.cell? ⟨g, 2, none⟩ = some (.int .u8 0) := (gb 2 (by decide)).1
      have f2 : W.frozen? ⟨g, 2, none⟩ = false := (gb 2 (by decide)).2
      have c3 : W.cell? ⟨g, 3, none⟩ = some (.int .u8 0) := (gb 3 (by decide)).1
      have f3 : W.frozen? ⟨g, 3, none⟩ = false := (gb 3 (by decide)).2
      refine wpOp_take rfl rfl ?_
      unfold alF arrV
      simp only [List.map_cons, List.map_nil]
      go_simp
      rw [putAll4]
      exact ⟨true, true, l2, l3, l4, l5, l6, l7, true, true, true, true, true, l13, l14, l15, rfl, _, z1, z2, z3, _, _, u1, v1, u2, v2, u3, v3, rfl, hG.put g1, fun _ => rfl, fun _ => rfl, h2, h3, h4, h5, h6, h7, AV.fill g1 g2 gb rfl, a1.other (fun h => (n01 rfl h).symm), a2.other (fun h => (n02 rfl h).symm), a3.other (fun h => (n03 rfl h).symm), n01, n02, n03, n12, n13, n23⟩
    · simp [Region.binds] at hi
      have hT : l0 = true ∧ l1 = true ∧ l2 = true ∧ l3 = true ∧ l8 = true ∧ l9 = true ∧ l10 = true ∧ l11 = true ∧ l12 = true := by simp [hi]
      have hst : l13 = false := by simp [hi]
      clear hi
      obtain ⟨rfl, rfl, rfl, rfl, rfl, rfl, rfl, rfl, rfl⟩ := hT
      subst hst
      obtain ⟨g, rfl, g1, g2, gb⟩ := a1.2 rfl
      have e := h3 rfl
      subst e
      rw [if_neg (by decide)] at gb
      have c0 : W.cell? ⟨g, 0, none⟩ = some (.int .u8 0) := (gb 0 (by decide)).1
      have f0 : W.frozen? ⟨g, 0, none⟩ = false := (gb 0 (by decide)).2
      have c1 : W.cell? ⟨g, 1, none⟩ = some (.int .u8 0) := (gb 1 (by decide)).1
      have f1 : W.frozen? ⟨g, 1, none⟩ = false := (gb 1 (by decide)).2
      have c2 : W.cell? ⟨g, 2, none⟩ = some (.int .u8 0) := (gb 2 (by decide)).1
      have f2 : W.frozen? ⟨g, 2, none⟩ = false := (gb 2 (by decide)).2
      have c3 : W.cell? ⟨g, 3, none⟩ = some (.int .u8 0) := (gb 3 (by decide)).1
      have f3 : W.frozen? ⟨g, 3, none⟩ = false := (gb 3 (by decide)).2
      refine wpOp_take rfl rfl ?_
      unfold alF arrV
      simp only [List.map_cons, List.map_nil]
      go_simp
      rw [putAll4]
      exact ⟨true, true, true, true, l4, l5, l6, l7, true, true, true, true, true, true, l14, l15, rfl, z0, _, z2, z3, _, _, _, _, u2, v2, u3, v3, rfl, hG.put g1, fun _ => rfl, fun _ => rfl, fun _ => rfl, fun _ => rfl, h4, h5, h6, h7, a0.other (fun h => n01 h rfl), AV.fill g1 g2 gb rfl, a2.other (fun h => (n12 rfl h).symm), a3.other (fun h => (n13 rfl h).symm), n01, n02, n03, n12, n13, n23⟩
    · simp [Region.binds] at hi
      have hT : l0 = true ∧ l1 = true ∧ l2 = true ∧ l3 = true ∧ l4 = true ∧ l5 = true ∧ l8 = true ∧ l9 = true ∧ l10 = true ∧ l11 = true ∧ l12 = true ∧ l13 = true := by simp [hi]
      have hst : l14 = false := by simp [hi]
      clear hi
      obtain ⟨rfl, rfl, rfl, rfl, rfl, rfl, rfl, rfl, rfl, rfl, rfl, rfl⟩ := hT
      subst hst
      obtain ⟨g, rfl, g1, g2, gb⟩ := a2.2 rfl
      have e := h5 rfl
      subst e
      rw [if_neg (by decide)] at gb
      have c0 : W.cell? ⟨g, 0, none⟩ = some (.int .u8 0) := (gb 0 (by decide)).1
      have f0 : W.frozen? ⟨g, 0, none⟩ = false := (gb 0 (by decide)).2
      have c1 : W.cell? ⟨g, 1, none⟩ = some (.int .u8 0) := (gb 1 (by decide)).1
      have f1 : W.frozen? ⟨g, 1, none⟩ = false := (gb 1 (by decide)).2
      have c2 : W.cell? ⟨g, 2, none⟩ = some (.int .u8 0) := (gb 2 (by decide)).1
      have f2 : W.frozen? ⟨g, 2, none⟩ = false := (gb 2 (by decide)).2
      have c3 : W.cell? ⟨g, 3, none⟩ = some (.int .u8 0) := (gb 3 (by decide)).1
      have f3 : W.frozen? ⟨g, 3, none⟩ = false := (gb 3 (by decide)).2
      have c4 : W.cell? ⟨g, 4, none⟩ = some (.int .u8 0) := (gb 4 (by decide)).1
      have f4 : W.frozen? ⟨g, 4, none⟩ = false := (gb 4 (by decide)).2
      have c5 : W.cell? ⟨g, 5, none⟩ = some (.int .u8 0) := (gb 5 (by decide)).1
      have f5 : W.frozen? ⟨g, 5, none⟩ = false := (gb 5 (by decide)).2
      have c6 : W.cell? ⟨g, 6, none⟩ = some (.int .u8 0) := (gb 6 (by decide)).1
      have f6 : W.frozen? ⟨g, 6, none⟩ = false := (gb 6 (by decide)).2
      have c7 : W.cell? ⟨g, 7, none⟩ = some (.int .u8 0) := (gb 7 (by decide)).1
      have f7 : W.frozen? ⟨g, 7, none⟩ = false := (gb 7 (by decide)).2
      have c8 : W.cell? ⟨g, 8, none⟩ = some (.int .u8 0) := (gb 8 (by decide)).1
      have f8 : W.frozen? ⟨g, 8, none⟩ = false := (gb 8 (by decide)).2
      have c9 : W.cell? ⟨g, 9, none⟩ = some (.int .u8 0) := (gb 9 (by decide)).1
      have f9 : W.frozen? ⟨g, 9, none⟩ = false := (gb 9 (by decide)).2
      have c10 : W.cell? ⟨g, 10, none⟩ = some (.int .u8 0) := (gb 10 (by decide)).1
      have f10 : W.frozen? ⟨g, 10, none⟩ = false := (gb 10 (by decide)).2
      have c11 : W.cell? ⟨g, 11, none⟩ = some (.int .u8 0) := (gb 11 (by decide)).1
      have f11 : W.frozen? ⟨g, 11, none⟩ = false := (gb 11 (by decide)).2
      have c12 : W.cell? ⟨g, 12, none⟩ = some (.int .u8 0) := (gb 12 (by decide)).1
      have f12 : W.frozen? ⟨g, 12, none⟩ = false := (gb 12 (by decide)).2
      have c13 : W.cell? ⟨g, 13, none⟩ = some (.int .u8 0) := (gb 13 (by decide)).1
      have f13 : W.frozen? ⟨g, 13, none⟩ = false := (gb 13 (by decide)).2
      have c14 : W.cell? ⟨g, 14, none⟩ = some (.int .u8 0) := (gb 14 (by decide)).1
      have f14 : W.frozen? ⟨g, 14, none⟩ = false := (gb 14 (by decide)).2
      have c15 : W.cell? ⟨g, 15, none⟩ = some (.int .u8 0) := (gb 15 (by decide)).1
      have f15 : W.frozen? ⟨g, 15, none⟩ = false := (gb 15 (by decide)).2
      refine wpOp_take rfl rfl ?_
      unfold alF arrV
      simp only [List.map_cons, List.map_nil]
      go_simp
      rw [putAll16]
      exact ⟨true, true, true, true, true, true, l6, l7, true, true, true, true, true, true, true, l15, rfl, z0, z1, _, z3, _, _, _, _, _, _, u3, v3, rfl, hG.put g1, fun _ => rfl, fun _ => rfl, fun _ => rfl, fun _ => rfl, fun _ => rfl, fun _ => rfl, h6, h7, a0.other (fun h => n02 h rfl), a1.other (fun h => n12 h rfl), AV.fill g1 g2 gb rfl, a3.other (fun h => (n23 rfl h).symm), n01, n02, n03, n12, n13, n23⟩
    · simp [Region.binds] at hi
      have hT : l0 = true ∧ l1 = true ∧ l2 = true ∧ l3 = true ∧ l4 = true ∧ l5 = true ∧ l6 = true ∧ l7 = true ∧ l8 = true ∧ l9 = true ∧ l10 = true ∧ l11 = true ∧ l12 = true ∧ l13 = true ∧ l14 = true := by simp [hi]
      have hst : l15 = false := by simp [hi]
      clear hi
      obtain ⟨rfl, rfl, rfl, rfl, rfl, rfl, rfl, rfl, rfl, rfl, rfl, rfl, rfl, rfl, rfl⟩ := hT
      subst hst
      obtain ⟨g, rfl, g1, g2, gb⟩ := a3.2 rfl
      have e := h7 rfl
      subst e
      rw [if_neg (by decide)] at gb
      have c0 : W.cell? ⟨g, 0, none⟩ = some (.int .u8 0) := (gb 0 (by decide)).1
      have f0 : W.frozen? ⟨g, 0, none⟩ = false := (gb 0 (by decide)).2
      have c1 : W.cell? ⟨g, 1, none⟩ = some (.int .u8 0) := (gb 1 (by decide)).1
      have f1 : W.frozen? ⟨g, 1, none⟩ = false := (gb 1 (by decide)).2
      have c2 : W.cell? ⟨g, 2, none⟩ = some (.int .u8 0) := (gb 2 (by decide)).1
      have f2 : W.frozen? ⟨g, 2, none⟩ = false := (gb 2 (by decide)).2
      have c3 : W.cell? ⟨g, 3, none⟩ = some (.int .u8 0) := (gb 3 (by decide)).1
      have f3 : W.frozen? ⟨g, 3, none⟩ = false := (gb 3 (by decide)).2
      have c4 : W.cell? ⟨g, 4, none⟩ = some (.int .u8 0) := (gb 4 (by decide)).1
      have f4 : W.frozen? ⟨g, 4, none⟩ = false := (gb 4 (by decide)).2
      have c5 : W.cell? ⟨g, 5, none⟩ = some (.int .u8 0) := (gb 5 (by decide)).1
      have f5 : W.frozen? ⟨g, 5, none⟩ = false := (gb 5 (by decide)).2
      have c6 : W.cell? ⟨g, 6, none⟩ = some (.int .u8 0) := (gb 6 (by decide)).1
      have f6 : W.frozen? ⟨g, 6, none⟩ = false := (gb 6 (by decide)).2
      have c7 : W.cell? ⟨g, 7, none⟩ = some (.int .u8 0) := (gb 7 (by decide)).1
      have f7 : W.frozen? ⟨g, 7, none⟩ = false := (gb 7 (by decide)).2
      have c8 : W.cell? ⟨g, 8, none⟩ = some (.int .u8 0) := (gb 8 (by decide)).1
      have f8 : W.frozen? ⟨g, 8, none⟩ = false := (gb 8 (by decide)).2
      have c9 : W.cell? ⟨g, 9, none⟩ = some (.int .u8 0) := (gb 9 (by decide)).1
      have f9 : W.frozen? ⟨g, 9, none⟩ = false := (gb 9 (by decide)).2
      have c10 : W.cell? ⟨g, 10, none⟩ = some (.int .u8 0) := (gb 10 (by decide)).1
      have f10 : W.frozen? ⟨g, 10, none⟩ = false := (gb 10 (by decide)).2
      have c11 : W.cell? ⟨g, 11, none⟩ = some (.int .u8 0) := (gb 11 (by decide)).1
      have f11 : W.frozen? ⟨g, 11, none⟩ = false := (gb 11 (by decide)).2
      have c12 : W.cell? ⟨g, 12, none⟩ = some (.int .u8 0) := (gb 12 (by decide)).1
      have f12 : W.frozen? ⟨g, 12, none⟩ = false := (gb 12 (by decide)).2
      have c13 : W.cell? ⟨g, 13, none⟩ = some (.int .u8 0) := (gb 13 (by decide)).1
      have f13 : W.frozen? ⟨g, 13, none⟩ = false := (gb 13 (by decide)).2
      have c14 : W.cell? ⟨g, 14, none⟩ = some (.int .u8 0) := (gb 14 (by decide)).1
      have f14 : W.frozen? ⟨g, 14, none⟩ = false := (gb 14 (by decide)).2
      have c15 : W.cell? ⟨g, 15, none⟩ = some (.int .u8 0) := (gb 15 (by decide)).1
      have f15 : W.frozen? ⟨g, 15, none⟩ = false := (gb 15 (by decide)).2
      refine wpOp_take rfl rfl ?_
      unfold alF arrV
      simp only [List.map_cons, List.map_nil]
      go_simp
      rw [putAll16]
      exact ⟨true, true, true, true, true, true, true, true, true, true, true, true, true, true, true, true, rfl, z0, z1, z2, _, _, _, _, _, _, _, _, _, rfl, hG.put g1, fun _ => rfl, fun _ => rfl, fun _ => rfl, fun _ => rfl, fun _ => rfl, fun _ => rfl, fun _ => rfl, fun _ => rfl, a0.other (fun h => n03 h rfl), a1.other (fun h => n13 h rfl), a2.other (fun h => n23 h rfl), AV.fill g1 g2 gb rfl, n01, n02, n03, n12, n13, n23⟩
  case alfin =>
    rintro listed a W ⟨l0, l1, l2, l3, l4, l5, l6, l7, l8, l9, l10, l11, l12, l13, l14, l15, rfl, z0, z1, z2, z3, u0, v0, u1, v1, u2, v2, u3, v3, rfl, hG, h0, h1, h2, h3, h4, h5, h6, h7, a0, a1, a2, a3, n01, n02, n03, n12, n13, n23⟩ hr
    rw [Region.ready, List.filter_eq_nil_iff] at hr
    have q0 := hr 0 (List.mem_range.2 (show 0 < 16 by decide))
    simp [Region.binds] at q0
    subst q0
    have q2 := hr 2 (List.mem_range.2 (show 2 < 16 by decide))
    simp [Region.binds] at q2
    subst q2
    have q4 := hr 4 (List.mem_range.2 (show 4 < 16 by decide))
    simp [Region.binds] at q4
    subst q4
    have q6 := hr 6 (List.mem_range.2 (show 6 < 16 by decide))
    simp [Region.binds] at q6
    subst q6
    have q8 := hr 8 (List.mem_range.2 (show 8 < 16 by decide))
    simp [Region.binds] at q8
    subst q8
    have q9 := hr 9 (List.mem_range.2 (show 9 < 16 by decide))
    simp [Region.binds] at q9
    subst q9
    have q10 := hr 10 (List.mem_range.2 (show 10 < 16 by decide))
    simp [Region.binds] at q10
    subst q10
    have q11 := hr 11 (List.mem_range.2 (show 11 < 16 by decide))
    simp [Region.binds] at q11
    subst q11
    have q1 := hr 1 (List.mem_range.2 (show 1 < 16 by decide))
    simp [Region.binds] at q1
    subst q1
    have q3 := hr 3 (List.mem_range.2 (show 3 < 16 by decide))
    simp [Region.binds] at q3
    subst q3
    have q5 := hr 5 (List.mem_range.2 (show 5 < 16 by decide))
    simp [Region.binds] at q5
    subst q5
    have q7 := hr 7 (List.mem_range.2 (show 7 < 16 by decide))
    simp [Region.binds] at q7
    subst q7
    have q12 := hr 12 (List.mem_range.2 (show 12 < 16 by decide))
    simp [Region.binds] at q12
    subst q12
    have q13 := hr 13 (List.mem_range.2 (show 13 < 16 by decide))
    simp [Region.binds] at q13
    subst q13
    have q14 := hr 14 (List.mem_range.2 (show 14 < 16 by decide))
    simp [Region.binds] at q14
    subst q14
    have q15 := hr 15 (List.mem_range.2 (show 15 < 16 by decide))
    simp [Region.binds] at q15
    subst q15
    clear hr h0 h1 h2 h3 h4 h5 h6 h7
    obtain ⟨g0, g1, g2, g3, rfl, rfl, rfl, rfl, hF⟩ := AFin.of hG a0 a1 a2 a3 n01 n02 n03 n12 n13 n23
    unfold alF
    go_wp2_with fail
    go_meet
    exact ⟨g0, g1, g2, g3, rfl, rfl, rfl, rfl, hF⟩
end Go.Proofs.Ythpdfihmpoofaaa
