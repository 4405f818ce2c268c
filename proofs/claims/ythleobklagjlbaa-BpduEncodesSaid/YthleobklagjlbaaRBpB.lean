/-
  What the document's own Decode and Encode (siphonref06) compute where there is an answer. Conditions: those of each.
-/
import Derived.Test.YthleobklagjlbaaRBp
namespace Go.Proofs.Ythleobklagjlbaa
open Go.RowKit

/-- the frame behind a drawn region, by name -/
theorem then_named {K : Act → World → Prop} {Q : Exit → Act → World → Prop} {a : Act} {w : World} (h : ∀ A, A = a → Exit.then K Q Exit.normal A w) : Exit.then K Q Exit.normal a w := h a rfl
theorem bt_nat (s : ByteArray) (k : Nat) : ∃ q : Nat, PlainAid.bt s k = (q : Int) ∧ q < 256 := ⟨_, bt_getD s k, UInt8.toNat_lt _⟩
theorem wrap64_nat (q : Nat) (h : q < 256) : wrap64 (q : Int) = (q : Int) := IntWalk.wrap64_in _ ⟨by omega, by omega⟩
theorem flag_test (s : ByteArray) : (PlainAid.bt s 7 % 2 == 1) = Bp.bit s.data.toList 0 ∧ (PlainAid.bt s 7 / 16 % 2 == 1) = Bp.bit s.data.toList 4 ∧ (PlainAid.bt s 7 / 32 % 2 == 1) = Bp.bit s.data.toList 5 := by
  rw [bt_getD]
  unfold Bp.bit
  generalize (s.data.toList.getD 7 0).toNat = n
  refine ⟨?_, ?_, ?_⟩ <;> (rw [Bool.eq_iff_iff, beq_iff_eq, beq_iff_eq]; omega)

/-- the result's own box, still untouched -/
def Kept8 (n : Nat) (w W : World) : Prop :=
  Below n w W ∧ n < W.heap.size ∧ W.cell? ⟨n, 0, none⟩ = some (.int .u64 0) ∧ W.cell? ⟨n, 1, none⟩ = some (.int .i64 0) ∧ W.cell? ⟨n, 2, none⟩ = some (.int .u64 0) ∧ W.cell? ⟨n, 3, none⟩ = some (.int .i64 0) ∧ W.cell? ⟨n, 4, none⟩ = some (.int .i64 0) ∧ W.cell? ⟨n, 5, none⟩ = some (.bool false) ∧ W.cell? ⟨n, 6, none⟩ = some (.bool false) ∧ W.cell? ⟨n, 7, none⟩ = some (.bool false) ∧ (∀ o, W.frozen? ⟨n, o, none⟩ = false)
theorem kept8_next {n : Nat} {w W w' : World} (g : Below W.heap.size W w') (h : Kept8 n w W) : Kept8 n w w' := by
  obtain ⟨b, z, z0, z1, z2, z3, z4, z5, z6, z7, hf⟩ := h
  have hz := g.size
  exact ⟨b.trans (g.mono (by omega)), by omega, (g.cell (by simp; omega)).trans z0, (g.cell (by simp; omega)).trans z1, (g.cell (by simp; omega)).trans z2, (g.cell (by simp; omega)).trans z3, (g.cell (by simp; omega)).trans z4, (g.cell (by simp; omega)).trans z5, (g.cell (by simp; omega)).trans z6, (g.cell (by simp; omega)).trans z7, fun o => (g.frozen (by simp; omega)).trans (hf o)⟩
theorem kept8_first (w : World) : Kept8 w.heap.size w (w.alloc (.cells #[.int .u64 0, .int .i64 0, .int .u64 0, .int .i64 0, .int .i64 0, .bool false, .bool false, .bool false] 26)) := by
  refine ⟨bbox1 _ _, by simp, ?_, ?_, ?_, ?_, ?_, ?_, ?_, ?_, ?_⟩
  all_goals first | (intro o; simp [go_sem]; done) | simp [go_sem]

set_option maxRecDepth 100000 in
set_option maxHeartbeats 2000000 in
theorem rdec_ok (s : ByteArray) (hs : 39 ≤ s.size) (hl : s.size ≤ 281474976710656) (hg : Bp.good s.data.toList = true) (w : World) :
    Calls Try.prog 10 #[.string s] w fun e w' => e = .returned (.tuple #[.agg #[.int .u64 (Bp.root s.data.toList), .int .i64 (Bp.cost s.data.toList), .int .u64 (Bp.bridge s.data.toList), .int .i64 (Bp.port s.data.toList), .int .i64 (Bp.age s.data.toList),
      .bool (Bp.bit s.data.toList 0), .bool (Bp.bit s.data.toList 4), .bool (Bp.bit s.data.toList 5)], .int .i64 0]) ∧ Below w.heap.size w w' := by
  have hbt := PlainAid.get_bt s
  have hc : Bp.pre s.data.toList = true ∧ (PlainAid.bt s 31 != 0) = false ∧ (PlainAid.bt s 38 != 0) = false := by
    have z : ∀ b : UInt8, ((b.toNat : Int) != 0) = !(b == 0) := by
      intro b
      rw [Bool.eq_iff_iff, bne_iff_ne, Bool.not_eq_true', beq_eq_false_iff_ne, ne_eq, ne_eq, ← UInt8.toNat_inj]
      simp
    rw [bt_getD, bt_getD, z, z]
    exact and3t hg
  obtain ⟨h1, h2, h3⟩ := hc
  have hb : ((s.extract 0 7).toList == [66, 66, 3, 0, 0, 2, 2]) = true := by
    rw [Lib.toList_data, data_extract]
    exact h1
  have hR : RWides s 8 (Bp.root s.data.toList) := rwide_ok s 8 (by omega) (by omega)
  have hC : RAts s 16 4 (Bp.cost s.data.toList) := rat_ok s 16 4 (by omega) (by decide) (by decide) (by omega)
  have hB : RWides s 20 (Bp.bridge s.data.toList) := rwide_ok s 20 (by omega) (by omega)
  have hP : RAts s 28 2 (Bp.port s.data.toList) := rat_ok s 28 2 (by omega) (by decide) (by decide) (by omega)
  obtain ⟨f0, f4, f5⟩ := flag_test s
  have haa : PlainAid.bt s 30 = (Bp.age s.data.toList : Int) := by
    rw [bt_getD]
    unfold Bp.age
    have hd : (s.data.toList.drop 30).take 1 = [s.data.toList.getD 30 0] := by
      have e := size_toList s
      rw [List.getD_eq_getElem?_getD, List.getElem?_eq_getElem (by omega), List.drop_eq_getElem_cons (by omega)]
      rfl
    rw [hd, Pl.num_one]
  obtain ⟨r, hr⟩ : ∃ r, r = Bp.root s.data.toList := ⟨_, rfl⟩
  obtain ⟨c, hcc⟩ : ∃ r, r = Bp.cost s.data.toList := ⟨_, rfl⟩
  obtain ⟨b, hbb⟩ : ∃ r, r = Bp.bridge s.data.toList := ⟨_, rfl⟩
  obtain ⟨p, hpp⟩ : ∃ r, r = Bp.port s.data.toList := ⟨_, rfl⟩
  rw [← hr, ← hcc, ← hbb, ← hpp, ← haa]
  rw [← hr] at hR
  rw [← hcc] at hC
  rw [← hbb] at hB
  rw [← hpp] at hP
  obtain ⟨q7, hq7, hq7l⟩ := bt_nat s 7
  obtain ⟨q30, hq30, hq30l⟩ := bt_nat s 30
  have hw7 : wrap64 (PlainAid.bt s 7) = PlainAid.bt s 7 := by rw [hq7]; exact wrap64_nat _ (by omega)
  have hw30 : wrap64 (PlainAid.bt s 30) = PlainAid.bt s 30 := by rw [hq30]; exact wrap64_nat _ (by omega)
  clear hr hcc hbb hpp haa hg h1
  go_enter Try.func10, Try.ntmps10
  go_wp2_with (first | ((with_reducible refine (hR.to _).mono ?_); rintro e w1 ⟨rfl, g1⟩; have H1 := kept8_next g1 (kept8_first w)) | ((with_reducible refine (hB.to _).mono ?_); rintro e w2 ⟨rfl, g2⟩; have H2 := kept8_next g2 H1) | ((with_reducible refine (hC.to _).mono ?_); rintro e w3 ⟨rfl, g3⟩; have H3 := kept8_next g3 H2) | ((with_reducible refine (hP.to _).mono ?_); rintro e w4 ⟨rfl, g4⟩; have H4 := kept8_next g4 H3; have H4q := H4; obtain ⟨H4b, H4z, H4y0, H4y1, H4y2, H4y3, H4y4, H4y5, H4y6, H4y7, H4g⟩ := H4q))
  go_region_with (fail)
  all_goals
    refine then_named fun A hA => ?_
    rename_i aK hz
    refine aK _ _ ?_
    simp only [Act.put, List.setIfInBounds_toArray, List.set_cons_succ, List.set_cons_zero, List.getElem_toArray, List.getElem_cons_succ, List.getElem_cons_zero] at hA
    subst hA
    refine wp_ret ?_
    show bodyPost _ _ _ _ _ _
    refine bodyPost_ret (v := .tuple #[.agg #[.int .u64 r, .int .i64 c, .int .u64 b, .int .i64 p, .int .i64 (IntKind.i64.wrap q30), .bool ((q7 : Int) % 2 == 1), .bool ((q7 : Int) / 16 % 2 == 1), .bool ((q7 : Int) / 32 % 2 == 1)], .int .i64 0])
      (by simp [results, Try.results10, go_sem, H4y0, H4y1, H4y2, H4y3, H4y4, H4y5, H4y6, H4y7, H4z]) rfl ⟨?_, ?_⟩
    · rw [PlainAid.i64_is, wrap64_nat q30 hq30l, hq30, ← hq7, f0, f4, f5]
    · refine Below.drew (Below.alloc ?_ (by have := H4b.size; simp; omega) _)
      (repeat (refine Below.setCell ?_ (by simp) _))
      exact H4b
end Go.Proofs.Ythleobklagjlbaa
