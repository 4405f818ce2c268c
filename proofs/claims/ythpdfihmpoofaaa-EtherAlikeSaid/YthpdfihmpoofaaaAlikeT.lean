/-
  The walk of 'EtherAlike' behind the region in which it makes its four arrays. Conditions: those of the theorem: the four arrays stand apart and are fresh.
-/
import Derived.Test.YthpdfihmpoofaaaAlikeI
import Derived.Test.YthpdfihmpoofaaaLaw03
import Derived.Test.YthpdfihmpoofaaaAlikeS
import Derived.Deep.DeepCutAuto
import Derived.Deep.CutRange
namespace Go.Proofs.Ythpdfihmpoofaaa
open Go.RowKit

/-- what holds behind the region -/
def AFin (n0 : Nat) (w : World) (A B C D : List UInt8) (g0 g1 g2 g3 : Nat) (W : World) : Prop :=
  Below n0 w W ∧ (n0 < g0 ∧ n0 < g1 ∧ n0 < g2 ∧ n0 < g3) ∧ (g0 < W.heap.size ∧ g1 < W.heap.size ∧ g2 < W.heap.size ∧ g3 < W.heap.size) ∧ BytesAt W g0 A ∧ BytesAt W g1 B ∧ BytesAt W g2 C ∧ BytesAt W g3 D ∧
    g0 ≠ g1 ∧ g0 ≠ g2 ∧ g0 ≠ g3 ∧ g1 ≠ g2 ∧ g1 ≠ g3 ∧ g2 ≠ g3

/-- the code behind a first part -/
def seqTail : Code → Code
  | .seq _ c => c
  | c => c

set_option maxRecDepth 100000 in
set_option maxHeartbeats 16000000 in
theorem alike_rest (m0 m1 m2 m3 m4 m5 m6 m7 m8 m9 m10 m11 m12 m13 m14 m15 m16 m17 m18 m19 m20 m21 m22 m23 m24 m25 m26 m27 m28 m29 m30 m31 m32 m33 m34 m35 m36 m37 m38 m39 : UInt8) (w wc : World) (g0 g1 g2 g3 : Nat) (u17 u18 u19 u20 u21 u22 u23 u24 : Value)
    (hF : AFin w.heap.size w [m0, m1, m2, m3] [m4, m5, m6, m7] [m8, m9, m10, m11, m12, m13, m14, m15, m16, m17, m18, m19, m20, m21, m22, m23] [m24, m25, m26, m27, m28, m29, m30, m31, m32, m33, m34, m35, m36, m37, m38, m39] g0 g1 g2 g3 wc) :
    Code.wp Try.prog (seqTail (seqTail (Try.f8.body.getD .skip))) (bodyPost Try.prog Try.f8 fun e w' => e = .returned (.bool true) ∧ Below w.heap.size w w')
      { tmps := #[(.agg #[.int .u8 m0.toNat, .int .u8 m1.toNat, .int .u8 m2.toNat, .int .u8 m3.toNat, .int .u8 m4.toNat, .int .u8 m5.toNat, .int .u8 m6.toNat, .int .u8 m7.toNat, .int .u8 m8.toNat, .int .u8 m9.toNat, .int .u8 m10.toNat, .int .u8 m11.toNat, .int .u8 m12.toNat, .int .u8 m13.toNat, .int .u8 m14.toNat, .int .u8 m15.toNat, .int .u8 m16.toNat, .int .u8 m17.toNat, .int .u8 m18.toNat, .int .u8 m19.toNat, .int .u8 m20.toNat, .int .u8 m21.toNat, .int .u8 m22.toNat, .int .u8 m23.toNat, .int .u8 m24.toNat, .int .u8 m25.toNat, .int .u8 m26.toNat, .int .u8 m27.toNat, .int .u8 m28.toNat, .int .u8 m29.toNat, .int .u8 m30.toNat, .int .u8 m31.toNat, .int .u8 m32.toNat, .int .u8 m33.toNat, .int .u8 m34.toNat, .int .u8 m35.toNat, .int .u8 m36.toNat, .int .u8 m37.toNat, .int .u8 m38.toNat, .int .u8 m39.toNat] : Value), .pointer (some ⟨w.heap.size, 0, none⟩), .bool false, .pointer (some ⟨g0, 0, none⟩), .pointer (some ⟨g1, 0, none⟩), .pointer (some ⟨g2, 0, none⟩), .pointer (some ⟨g3, 0, none⟩), undef, undef, undef, undef, undef, undef, undef, undef, undef, undef, u17, u18, u19, u20, u21, u22, u23, u24, undef, undef, undef, undef, undef, undef, undef, undef, undef, undef, undef, undef, undef, undef, undef, undef, undef, undef, undef, undef, undef, undef, undef, undef, undef, undef, undef, undef, undef, undef, undef, undef, undef, undef, undef, undef, undef, undef, undef, undef, undef, undef, undef, undef, undef, undef, undef, undef, undef, undef, undef, undef, undef, undef, undef, undef, undef, undef, undef, undef, undef, undef, undef, undef, undef, undef, undef, undef, undef, undef, undef, undef, undef, undef, undef, undef, undef, undef, undef, undef, undef, undef, undef, undef, undef, undef, undef, undef, undef, undef, undef, undef, undef, undef, undef, undef, undef, undef, undef, undef, undef, undef, undef, undef, undef, undef, undef, undef, undef, undef, undef, undef, undef, undef, undef, undef, undef], defers := [] } wc := by
  conv => arg 2; simp only [Try.f8, Option.getD_some, seqTail]
  have hF : Four w.heap.size w g0 g1 g2 g3 _ _ _ _ wc := hF
  have c0 := (hF.2.2.2.1 0 (Nat.zero_lt_succ _)).1
  have x0 := (hF.2.2.2.1 0 (Nat.zero_lt_succ _)).2
  have c1 := (hF.2.2.2.2.1 0 (Nat.zero_lt_succ _)).1
  have x1 := (hF.2.2.2.2.1 0 (Nat.zero_lt_succ _)).2
  have c2 := (hF.2.2.2.2.2.1 0 (Nat.zero_lt_succ _)).1
  have x2 := (hF.2.2.2.2.2.1 0 (Nat.zero_lt_succ _)).2
  have c3 := (hF.2.2.2.2.2.2.1 0 (Nat.zero_lt_succ _)).1
  have x3 := (hF.2.2.2.2.2.2.1 0 (Nat.zero_lt_succ _)).2
  obtain ⟨n01, n02, n03, n12, n13, n23⟩ := hF.2.2.2.2.2.2.2
  have HF := Lib.hid hF
  clear hF
  have c0 : wc.cell? ⟨g0, 0, none⟩ = some (.int .u8 m0.toNat) := c0
  have c1 : wc.cell? ⟨g1, 0, none⟩ = some (.int .u8 m4.toNat) := c1
  have c2 : wc.cell? ⟨g2, 0, none⟩ = some (.int .u8 m8.toNat) := c2
  have c3 : wc.cell? ⟨g3, 0, none⟩ = some (.int .u8 m24.toNat) := c3
  go_upto_region 6 with fail
  obtain ⟨v0, hv0, hz0⟩ : ∃ v : UInt8, (224 : Int) + (m0.toNat : Int) % 16 = (v.toNat : Int) ∧ v.toNat / 16 = 14 := ⟨UInt8.ofNat (224 + m0.toNat % 16), by rw [UInt8.toNat_ofNat']; omega, by rw [UInt8.toNat_ofNat']; omega⟩
  obtain ⟨v4, hv4, hz4⟩ : ∃ v : UInt8, (224 : Int) + (m4.toNat : Int) % 16 = (v.toNat : Int) ∧ v.toNat / 16 = 14 := ⟨UInt8.ofNat (224 + m4.toNat % 16), by rw [UInt8.toNat_ofNat']; omega, by rw [UInt8.toNat_ofNat']; omega⟩
  rw [hv0, hv4]
  have hF2 : Four w.heap.size w g0 g1 g2 g3 [v0, m1, m2, m3] [v4, m5, m6, m7] [255, m9, m10, m11, m12, m13, m14, m15, m16, m17, m18, m19, m20, m21, m22, m23] [255, m25, m26, m27, m28, m29, m30, m31, m32, m33, m34, m35, m36, m37, m38, m39] ((((wc.setCell ⟨g0, 0, none⟩ (.int .u8 v0.toNat)).setCell ⟨g1, 0, none⟩ (.int .u8 v4.toNat)).setCell ⟨g2, 0, none⟩ (.int .u8 255)).setCell ⟨g3, 0, none⟩ (.int .u8 255)) := (((HF.out.set0 v0).set1 v4).set2 255).set3 255
  revert hF2
  generalize ((((wc.setCell ⟨g0, 0, none⟩ (.int .u8 v0.toNat)).setCell ⟨g1, 0, none⟩ (.int .u8 v4.toNat)).setCell ⟨g2, 0, none⟩ (.int .u8 255)).setCell ⟨g3, 0, none⟩ (.int .u8 255)) = W
  intro hF2
  have hG0 := group_of4 v0 m1 m2 m3 hz0
  have hG1 := group_of4 v4 m5 m6 m7 hz4
  have hG2 := group_of16 255 m9 m10 m11 m12 m13 m14 m15 m16 m17 m18 m19 m20 m21 m22 m23 rfl
  have hG3 := group_of16 255 m25 m26 m27 m28 m29 m30 m31 m32 m33 m34 m35 m36 m37 m38 m39 rfl
  have k0 := hF2.2.2.2.1.addr 4 4 rfl
  clear HF c0 c1 c2 c3 x0 x1 x2 x3 hv0 hv4 hz0 hz4
  go_upto_region 12 with (first | ((with_reducible refine (hG0.to _).mono ?_); rintro e w1 ⟨rfl, h1⟩; have hF3 := hF2.below h1; have k1 := hF3.2.2.2.2.1.addr 4 4 rfl; clear hF2) | ((with_reducible refine (hG1.to _).mono ?_); rintro e w2 ⟨rfl, h2⟩; have hF4 := hF3.below h2; have k2 := hF4.2.2.2.2.2.1.addr 16 16 rfl; clear hF3) | ((with_reducible refine (hG2.to _).mono ?_); rintro e w3 ⟨rfl, h3⟩; have hF5 := hF4.below h3; have k3 := hF5.2.2.2.2.2.2.1.addr 16 16 rfl; clear hF4) | ((with_reducible refine (hG3.to _).mono ?_); rintro e w4 ⟨rfl, h4⟩; have hF6 := hF5.below h4; clear hF5))
  have a1 : w4.cell? ⟨g0, 1, none⟩ = some (.int .u8 m1.toNat) := (hF6.2.2.2.1 1 (by show 1 < 4; decide)).1
  have a2 : w4.cell? ⟨g0, 2, none⟩ = some (.int .u8 m2.toNat) := (hF6.2.2.2.1 2 (by show 2 < 4; decide)).1
  have a3 : w4.cell? ⟨g0, 3, none⟩ = some (.int .u8 m3.toNat) := (hF6.2.2.2.1 3 (by show 3 < 4; decide)).1
  have b1 : w4.cell? ⟨g1, 1, none⟩ = some (.int .u8 m5.toNat) := (hF6.2.2.2.2.1 1 (by show 1 < 4; decide)).1
  have b2 : w4.cell? ⟨g1, 2, none⟩ = some (.int .u8 m6.toNat) := (hF6.2.2.2.2.1 2 (by show 2 < 4; decide)).1
  have b3 : w4.cell? ⟨g1, 3, none⟩ = some (.int .u8 m7.toNat) := (hF6.2.2.2.2.1 3 (by show 3 < 4; decide)).1
  have c12 : w4.cell? ⟨g2, 12, none⟩ = some (.int .u8 m20.toNat) := (hF6.2.2.2.2.2.1 12 (by show 12 < 16; decide)).1
  have c13 : w4.cell? ⟨g2, 13, none⟩ = some (.int .u8 m21.toNat) := (hF6.2.2.2.2.2.1 13 (by show 13 < 16; decide)).1
  have c14 : w4.cell? ⟨g2, 14, none⟩ = some (.int .u8 m22.toNat) := (hF6.2.2.2.2.2.1 14 (by show 14 < 16; decide)).1
  have c15 : w4.cell? ⟨g2, 15, none⟩ = some (.int .u8 m23.toNat) := (hF6.2.2.2.2.2.1 15 (by show 15 < 16; decide)).1
  have d12 : w4.cell? ⟨g3, 12, none⟩ = some (.int .u8 m36.toNat) := (hF6.2.2.2.2.2.2.1 12 (by show 12 < 16; decide)).1
  have d13 : w4.cell? ⟨g3, 13, none⟩ = some (.int .u8 m37.toNat) := (hF6.2.2.2.2.2.2.1 13 (by show 13 < 16; decide)).1
  have d14 : w4.cell? ⟨g3, 14, none⟩ = some (.int .u8 m38.toNat) := (hF6.2.2.2.2.2.2.1 14 (by show 14 < 16; decide)).1
  have d15 : w4.cell? ⟨g3, 15, none⟩ = some (.int .u8 m39.toNat) := (hF6.2.2.2.2.2.2.1 15 (by show 15 < 16; decide)).1
  have hB := hF6.1
  clear hF6 hF k0 k1 k2 k3 hG0 hG1 hG2 hG3
  obtain ⟨qa, hqa⟩ : ∃ q : Bool, ((m1.toNat : Int) % 128 == (m5.toNat : Int) % 128) = q := ⟨_, rfl⟩
  obtain ⟨qb, hqb⟩ : ∃ q : Bool, ((m2.toNat : Int) == (m6.toNat : Int)) = q := ⟨_, rfl⟩
  obtain ⟨qc, hqc⟩ : ∃ q : Bool, ((m3.toNat : Int) == (m7.toNat : Int)) = q := ⟨_, rfl⟩
  obtain ⟨qd, hqd⟩ : ∃ q : Bool, ((m20.toNat : Int) == (m36.toNat : Int)) = q := ⟨_, rfl⟩
  obtain ⟨qe, hqe⟩ : ∃ q : Bool, ((m21.toNat : Int) == (m37.toNat : Int)) = q := ⟨_, rfl⟩
  obtain ⟨qf, hqf⟩ : ∃ q : Bool, ((m22.toNat : Int) == (m38.toNat : Int)) = q := ⟨_, rfl⟩
  obtain ⟨qg, hqg⟩ : ∃ q : Bool, ((m23.toNat : Int) == (m39.toNat : Int)) = q := ⟨_, rfl⟩
  obtain ⟨t0, ht0⟩ : ∃ t : ByteArray, t = ⟨#[1, 0, 94, UInt8.ofNat (m1.toNat % 128), m2, m3]⟩ := ⟨_, rfl⟩
  obtain ⟨t1, ht1⟩ : ∃ t : ByteArray, t = ⟨#[1, 0, 94, UInt8.ofNat (m5.toNat % 128), m6, m7]⟩ := ⟨_, rfl⟩
  obtain ⟨t2, ht2⟩ : ∃ t : ByteArray, t = ⟨#[51, 51, m20, m21, m22, m23]⟩ := ⟨_, rfl⟩
  obtain ⟨t3, ht3⟩ : ∃ t : ByteArray, t = ⟨#[51, 51, m36, m37, m38, m39]⟩ := ⟨_, rfl⟩
  have hT : (qa && qb && qc) = decide (t0 = t1) := by
    rw [ht0, ht1, ← hqa, ← hqb, ← hqc, Bool.eq_iff_iff, decide_eq_true_iff]
    refine Iff.trans ?_ (four_same m1 m2 m3 m5 m6 m7).symm
    simp only [Bool.and_eq_true, beq_iff_eq, and_assoc, Int.natCast_inj, UInt8.toNat_inj]
    exact and_congr ⟨fun h => by omega, fun h => by omega⟩ Iff.rfl
  have hU : (qd && qe && qf && qg) = decide (t2 = t3) := by
    rw [ht2, ht3, ← hqd, ← hqe, ← hqf, ← hqg, Bool.eq_iff_iff, decide_eq_true_iff]
    refine Iff.trans ?_ (six_same m20 m21 m22 m23 m36 m37 m38 m39).symm
    simp only [Bool.and_eq_true, beq_iff_eq, and_assoc, Int.natCast_inj, UInt8.toNat_inj]
  have hV : decide (t0 = t2) = false := by
    rw [decide_eq_false_iff_not, ht0, ht2]
    intro q
    have h2 := congrArg (fun s : ByteArray => s.data.toList) q
    simp at h2
  rw [← ht0, ← ht1, ← ht2, ← ht3]
  have lT : (t0.toList == t1.toList) = decide (t0 = t1) := by rw [Bool.eq_iff_iff, beq_iff_eq, decide_eq_true_iff, Lib.toList_data, Lib.toList_data]; exact ⟨fun h => ba_eq h, fun h => by rw [h]⟩
  have lU : (t2.toList == t3.toList) = decide (t2 = t3) := by rw [Bool.eq_iff_iff, beq_iff_eq, decide_eq_true_iff, Lib.toList_data, Lib.toList_data]; exact ⟨fun h => ba_eq h, fun h => by rw [h]⟩
  have lV : (t0.toList == t2.toList) = false := by
    rw [beq_eq_false_iff_ne, Lib.toList_data, Lib.toList_data]
    exact fun h => absurd (ba_eq h) (of_decide_eq_false hV)
  generalize decide (t0 = t1) = T at hT lT
  generalize decide (t2 = t3) = U at hU lU
  have HT := Lib.hid hT
  have HU := Lib.hid hU
  clear hT hU hV ht0 ht1 ht2 ht3
  go_cut [15] (fun s15 wx => s15 = .bool (qa && qb && qc) ∧ wx = w4)
  case first =>
    cases qa <;> cases qb <;> cases qc <;> (go_wp2_with fail; go_meet; exact ⟨rfl, rfl⟩)
  case rest =>
    obtain ⟨rfl, rfl⟩ := hcut
    rw [HT.out]
    clear a1 a2 a3 b1 b2 b3 hqa hqb hqc HT qa qb qc
    go_upto_region 13 with fail
    go_cut [16] (fun s16 wx => s16 = .bool (qd && qe && qf && qg) ∧ wx = wc)
    case first =>
      cases qd <;> cases qe <;> cases qf <;> cases qg <;> (go_wp2_with fail; go_meet; exact ⟨rfl, rfl⟩)
    case rest =>
      obtain ⟨rfl, rfl⟩ := hcut
      rw [HU.out]
      have HL := Lib.hid live03
      clear c12 c13 c14 c15 d12 d13 d14 d15 hqd hqe hqf hqg HU qd qe qf qg
      go_wp2_with ((with_reducible refine (HL.out _).mono ?_); rintro e w5 ⟨rfl, g5⟩)
      go_ret
      exact ⟨rfl, bstep hB g5⟩
end Go.Proofs.Ythpdfihmpoofaaa
