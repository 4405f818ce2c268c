/-
  What the program's bpdu.Decode computes. Condition: the text's length lies within the form's own reach.
-/
import Derived.Lib.Strings
import Derived.Test.YticdmepplfgdiaaGreatDoorQ03
import Derived.Test.YticdmepplfgdiaaGreatDoorQ00
set_option linter.unusedVariables false
set_option linter.unusedSimpArgs false
namespace Go.Proofs.YticdmepplfgdiaaGreatDoor
open Go.RowKit
theorem getD_byteP (s : ByteArray) (k : Nat) (h : k < s.size) : s.data.toList.getD k 0 = s[k]'h := by
  have e := size_toList s
  rw [List.getD_eq_getElem?_getD, List.getElem?_eq_getElem (by omega)]
  rfl
theorem bt_getD (s : ByteArray) (k : Nat) : PlainAid.bt s k = ((s.data.toList.getD k 0).toNat : Int) := by
  unfold PlainAid.bt
  by_cases h : k < s.size
  · rw [dif_pos h, getD_byteP s k h]
  · have e := size_toList s
    rw [dif_neg h, List.getD_eq_getElem?_getD, List.getElem?_eq_none (by omega)]
    rfl
theorem prefix_is (s : ByteArray) (hs : 7 ≤ s.size) (hl : s.size ≤ 281474976710656) (w : World) :
    Calls Tryz.prog 102 #[.string s, .string ⟨#[66, 66, 3, 0, 0, 2, 2]⟩] w fun e w' => e = .returned (.bool (Bp.pre s.data.toList)) ∧ w = w' := by
  have hb : ((s.extract 0 7).toList == [66, 66, 3, 0, 0, 2, 2]) = Bp.pre s.data.toList := by
    rw [Lib.toList_data, data_extract]
    rfl
  have HB := Lib.hid hb
  clear hb
  go_enter Tryz.func102, Tryz.ntmps102
  go_wp2
  go_ret
  exact ⟨by rw [← HB.out]; rfl, rfl⟩
theorem bit_num (b : UInt8) (k : Nat) : (bits BinOp.and IntKind.u8 ((b.toNat : Int) / 2 ^ k) 1 == 1) = (b.toNat / 2 ^ k % 2 == 1) := by
  have hb := b.toNat_lt
  have h1 : ((b.toNat : Int) / 2 ^ k) = ((b.toNat / 2 ^ k : Nat) : Int) := by rw [Int.natCast_ediv, Int.natCast_pow]; rfl
  have h2 : b.toNat / 2 ^ k < 256 := Nat.lt_of_le_of_lt (Nat.div_le_self _ _) hb
  rw [h1, show (1 : Int) = ((1 : Nat) : Int) from rfl, u8_and_nat _ _ h2 (by decide), nat_mask1]
  rw [Bool.eq_iff_iff, beq_iff_eq, beq_iff_eq]
  omega
theorem has_bit (s : ByteArray) (B : Nat) (k : Nat) (hk : k < 8) (hs : 8 ≤ s.size) (w : World) (hc : w.cell? ⟨B, 0, none⟩ = some (.string s)) :
    Calls Tryz.prog 104 #[.int .i64 k, .pointer (some ⟨B, 0, none⟩)] w fun e w' => e = .returned (.bool (Bp.bit s.data.toList k)) ∧ w = w' := by
  have h := bit_num (s[7]'(by omega)) k
  rw [← getD_byteP s 7 (by omega)] at h
  have H := Lib.hid h
  clear h
  go_enter Tryz.func104, Tryz.ntmps104
  go_wp2
  go_ret
  refine ⟨?_, rfl⟩
  have h2 := H.out
  rw [getD_byteP s 7 (by omega)] at h2
  exact ret_bool (by rw [Bp.bit, getD_byteP s 7 (by omega)]; exact h2)
theorem has0 (s : ByteArray) (B : Nat) (hs : 8 ≤ s.size) (w : World) (hc : w.cell? ⟨B, 0, none⟩ = some (.string s)) :
    Calls Tryz.prog 104 #[.int .i64 0, .pointer (some ⟨B, 0, none⟩)] w fun e w' => e = .returned (.bool (Bp.bit s.data.toList 0)) ∧ w = w' := has_bit s B 0 (by decide) hs w hc
theorem has4 (s : ByteArray) (B : Nat) (hs : 8 ≤ s.size) (w : World) (hc : w.cell? ⟨B, 0, none⟩ = some (.string s)) :
    Calls Tryz.prog 104 #[.int .i64 4, .pointer (some ⟨B, 0, none⟩)] w fun e w' => e = .returned (.bool (Bp.bit s.data.toList 4)) ∧ w = w' := has_bit s B 4 (by decide) hs w hc
theorem has5 (s : ByteArray) (B : Nat) (hs : 8 ≤ s.size) (w : World) (hc : w.cell? ⟨B, 0, none⟩ = some (.string s)) :
    Calls Tryz.prog 104 #[.int .i64 5, .pointer (some ⟨B, 0, none⟩)] w fun e w' => e = .returned (.bool (Bp.bit s.data.toList 5)) ∧ w = w' := has_bit s B 5 (by decide) hs w hc
theorem and3t {a b c : Bool} : (a && b && c) = true → a = true ∧ (!b) = false ∧ (!c) = false := by cases a <;> cases b <;> cases c <;> simp
theorem far_cell {W : World} {a b : Addr} {v : Value} {x : Option Value} (h : a ≠ b) (hc : W.cell? b = x) : (W.setCell a v).cell? b = x := (World.cell?_setCell_other W a b v h).trans hc
theorem near_cell {W : World} {a : Addr} {u v : Value} (hc : W.cell? a = some u) : (W.setCell a v).cell? a = some v := World.cell?_setCell_same W a v hc
/-- what Decode's own boxes hold while it works: the text, the message so far, and the result still untouched -/
def Hold (n : Nat) (s : ByteArray) (v0 v1 v2 v3 v4 v5 v6 v7 : Value) (w W : World) : Prop :=
  Below n w W ∧ n + 1 + 1 < W.heap.size ∧ W.cell? ⟨n, 0, none⟩ = some (.string s) ∧ W.cell? ⟨n + 1 + 1, 0, none⟩ = some v0 ∧ W.cell? ⟨n + 1 + 1, 1, none⟩ = some v1 ∧ W.cell? ⟨n + 1 + 1, 2, none⟩ = some v2 ∧ W.cell? ⟨n + 1 + 1, 3, none⟩ = some v3 ∧ W.cell? ⟨n + 1 + 1, 4, none⟩ = some v4 ∧ W.cell? ⟨n + 1 + 1, 5, none⟩ = some v5 ∧ W.cell? ⟨n + 1 + 1, 6, none⟩ = some v6 ∧ W.cell? ⟨n + 1 + 1, 7, none⟩ = some v7 ∧ (∀ o, W.frozen? ⟨n + 1 + 1, o, none⟩ = false) ∧
    W.cell? ⟨n + 1, 0, none⟩ = some (.int .u64 0) ∧ W.cell? ⟨n + 1, 1, none⟩ = some (.int .i64 0) ∧ W.cell? ⟨n + 1, 2, none⟩ = some (.int .u64 0) ∧ W.cell? ⟨n + 1, 3, none⟩ = some (.int .i64 0) ∧ W.cell? ⟨n + 1, 4, none⟩ = some (.int .i64 0) ∧ W.cell? ⟨n + 1, 5, none⟩ = some (.bool false) ∧ W.cell? ⟨n + 1, 6, none⟩ = some (.bool false) ∧ W.cell? ⟨n + 1, 7, none⟩ = some (.bool false) ∧ (∀ o, W.frozen? ⟨n + 1, o, none⟩ = false)
theorem hold_next {n : Nat} {s : ByteArray} {v0 v1 v2 v3 v4 v5 v6 v7 : Value} {w W w' : World} (g : Below W.heap.size W w') (h : Hold n s v0 v1 v2 v3 v4 v5 v6 v7 w W) : Hold n s v0 v1 v2 v3 v4 v5 v6 v7 w w' := by
  obtain ⟨b, z, hc, c0, c1, c2, c3, c4, c5, c6, c7, hf, z0, z1, z2, z3, z4, z5, z6, z7, hg⟩ := h
  have hz := g.size
  exact ⟨b.trans (g.mono (by omega)), by omega, (g.cell (by simp; omega)).trans hc, (g.cell (by simp; omega)).trans c0, (g.cell (by simp; omega)).trans c1, (g.cell (by simp; omega)).trans c2, (g.cell (by simp; omega)).trans c3, (g.cell (by simp; omega)).trans c4, (g.cell (by simp; omega)).trans c5, (g.cell (by simp; omega)).trans c6, (g.cell (by simp; omega)).trans c7, fun o => (g.frozen (by simp; omega)).trans (hf o),
    (g.cell (by simp; omega)).trans z0, (g.cell (by simp; omega)).trans z1, (g.cell (by simp; omega)).trans z2, (g.cell (by simp; omega)).trans z3, (g.cell (by simp; omega)).trans z4, (g.cell (by simp; omega)).trans z5, (g.cell (by simp; omega)).trans z6, (g.cell (by simp; omega)).trans z7, fun o => (g.frozen (by simp; omega)).trans (hg o)⟩
theorem hold_set0 {n : Nat} {s : ByteArray} {v0 v1 v2 v3 v4 v5 v6 v7 x : Value} {w W : World} (h : Hold n s v0 v1 v2 v3 v4 v5 v6 v7 w W) : Hold n s x v1 v2 v3 v4 v5 v6 v7 w (W.setCell ⟨n + 1 + 1, 0, none⟩ x) := by
  obtain ⟨b, z, hc, c0, c1, c2, c3, c4, c5, c6, c7, hf, z0, z1, z2, z3, z4, z5, z6, z7, hg⟩ := h
  refine ⟨b.setCell (by simp; omega) _, by simpa using z, far_cell (by simp; try omega) hc, near_cell c0, far_cell (by simp) c1, far_cell (by simp) c2, far_cell (by simp) c3, far_cell (by simp) c4, far_cell (by simp) c5, far_cell (by simp) c6, far_cell (by simp) c7, fun o => by simpa using hf o,
    far_cell (by simp) z0, far_cell (by simp) z1, far_cell (by simp) z2, far_cell (by simp) z3, far_cell (by simp) z4, far_cell (by simp) z5, far_cell (by simp) z6, far_cell (by simp) z7, fun o => by simpa using hg o⟩
theorem hold_set1 {n : Nat} {s : ByteArray} {v0 v1 v2 v3 v4 v5 v6 v7 x : Value} {w W : World} (h : Hold n s v0 v1 v2 v3 v4 v5 v6 v7 w W) : Hold n s v0 x v2 v3 v4 v5 v6 v7 w (W.setCell ⟨n + 1 + 1, 1, none⟩ x) := by
  obtain ⟨b, z, hc, c0, c1, c2, c3, c4, c5, c6, c7, hf, z0, z1, z2, z3, z4, z5, z6, z7, hg⟩ := h
  refine ⟨b.setCell (by simp; omega) _, by simpa using z, far_cell (by simp; try omega) hc, far_cell (by simp) c0, near_cell c1, far_cell (by simp) c2, far_cell (by simp) c3, far_cell (by simp) c4, far_cell (by simp) c5, far_cell (by simp) c6, far_cell (by simp) c7, fun o => by simpa using hf o,
    far_cell (by simp) z0, far_cell (by simp) z1, far_cell (by simp) z2, far_cell (by simp) z3, far_cell (by simp) z4, far_cell (by simp) z5, far_cell (by simp) z6, far_cell (by simp) z7, fun o => by simpa using hg o⟩
theorem hold_set2 {n : Nat} {s : ByteArray} {v0 v1 v2 v3 v4 v5 v6 v7 x : Value} {w W : World} (h : Hold n s v0 v1 v2 v3 v4 v5 v6 v7 w W) : Hold n s v0 v1 x v3 v4 v5 v6 v7 w (W.setCell ⟨n + 1 + 1, 2, none⟩ x) := by
  obtain ⟨b, z, hc, c0, c1, c2, c3, c4, c5, c6, c7, hf, z0, z1, z2, z3, z4, z5, z6, z7, hg⟩ := h
  refine ⟨b.setCell (by simp; omega) _, by simpa using z, far_cell (by simp; try omega) hc, far_cell (by simp) c0, far_cell (by simp) c1, near_cell c2, far_cell (by simp) c3, far_cell (by simp) c4, far_cell (by simp) c5, far_cell (by simp) c6, far_cell (by simp) c7, fun o => by simpa using hf o,
    far_cell (by simp) z0, far_cell (by simp) z1, far_cell (by simp) z2, far_cell (by simp) z3, far_cell (by simp) z4, far_cell (by simp) z5, far_cell (by simp) z6, far_cell (by simp) z7, fun o => by simpa using hg o⟩
theorem hold_set3 {n : Nat} {s : ByteArray} {v0 v1 v2 v3 v4 v5 v6 v7 x : Value} {w W : World} (h : Hold n s v0 v1 v2 v3 v4 v5 v6 v7 w W) : Hold n s v0 v1 v2 x v4 v5 v6 v7 w (W.setCell ⟨n + 1 + 1, 3, none⟩ x) := by
  obtain ⟨b, z, hc, c0, c1, c2, c3, c4, c5, c6, c7, hf, z0, z1, z2, z3, z4, z5, z6, z7, hg⟩ := h
  refine ⟨b.setCell (by simp; omega) _, by simpa using z, far_cell (by simp; try omega) hc, far_cell (by simp) c0, far_cell (by simp) c1, far_cell (by simp) c2, near_cell c3, far_cell (by simp) c4, far_cell (by simp) c5, far_cell (by simp) c6, far_cell (by simp) c7, fun o => by simpa using hf o,
    far_cell (by simp) z0, far_cell (by simp) z1, far_cell (by simp) z2, far_cell (by simp) z3, far_cell (by simp) z4, far_cell (by simp) z5, far_cell (by simp) z6, far_cell (by simp) z7, fun o => by simpa using hg o⟩
theorem hold_set4 {n : Nat} {s : ByteArray} {v0 v1 v2 v3 v4 v5 v6 v7 x : Value} {w W : World} (h : Hold n s v0 v1 v2 v3 v4 v5 v6 v7 w W) : Hold n s v0 v1 v2 v3 x v5 v6 v7 w (W.setCell ⟨n + 1 + 1, 4, none⟩ x) := by
  obtain ⟨b, z, hc, c0, c1, c2, c3, c4, c5, c6, c7, hf, z0, z1, z2, z3, z4, z5, z6, z7, hg⟩ := h
  refine ⟨b.setCell (by simp; omega) _, by simpa using z, far_cell (by simp; try omega) hc, far_cell (by simp) c0, far_cell (by simp) c1, far_cell (by simp) c2, far_cell (by simp) c3, near_cell c4, far_cell (by simp) c5, far_cell (by simp) c6, far_cell (by simp) c7, fun o => by simpa using hf o,
    far_cell (by simp) z0, far_cell (by simp) z1, far_cell (by simp) z2, far_cell (by simp) z3, far_cell (by simp) z4, far_cell (by simp) z5, far_cell (by simp) z6, far_cell (by simp) z7, fun o => by simpa using hg o⟩
theorem hold_first (s : ByteArray) (w : World) : Hold w.heap.size s (.int .u64 0) (.int .i64 0) (.int .u64 0) (.int .i64 0) (.int .i64 0) (.bool false) (.bool false) (.bool false) w
    (((w.alloc (.cells #[.string s] 9)).alloc (.cells #[.int .u64 0, .int .i64 0, .int .u64 0, .int .i64 0, .int .i64 0, .bool false, .bool false, .bool false] 118)).alloc (.cells #[.int .u64 0, .int .i64 0, .int .u64 0, .int .i64 0, .int .i64 0, .bool false, .bool false, .bool false] 118)) := by
  refine ⟨((((Below.refl _ _).alloc (Nat.le_refl _) _).alloc (by simp) _).alloc (by simp; omega) _), by simp, ?_, ?_, ?_, ?_, ?_, ?_, ?_, ?_, ?_, ?_, ?_, ?_, ?_, ?_, ?_, ?_, ?_, ?_, ?_⟩
  all_goals first | (intro o; simp [go_sem]; done) | simp [go_sem]
set_option maxRecDepth 100000 in
set_option maxHeartbeats 2000000 in
theorem bpdec_ok (s : ByteArray) (hs : 39 ≤ s.size) (hl : s.size ≤ 281474976710656) (hg : Bp.good s.data.toList = true) (w : World) :
    Calls Tryz.prog 42 #[.string s] w fun e w' => e = .returned (.tuple #[.agg #[.int .u64 (Bp.root s.data.toList), .int .i64 (Bp.cost s.data.toList), .int .u64 (Bp.bridge s.data.toList), .int .i64 (Bp.port s.data.toList), .int .i64 (Bp.age s.data.toList),
      .bool (Bp.bit s.data.toList 0), .bool (Bp.bit s.data.toList 4), .bool (Bp.bit s.data.toList 5)], .int .i64 0]) ∧ Below w.heap.size w w' := by
  have hbt := PlainAid.get_bt s
  have hc : Bp.pre s.data.toList = true ∧ (PlainAid.bt s 31 != 0) = false ∧ (PlainAid.bt s 38 != 0) = false := by
    have z : ∀ b : UInt8, ((b.toNat : Int) != 0) = !(b == 0) := by
      intro b
      rw [Bool.eq_iff_iff, bne_iff_ne, Bool.not_eq_true', beq_eq_false_iff_ne, ne_eq, ne_eq, ← UInt8.toNat_inj]
      simp
    rw [bt_getD, bt_getD, z, z]
    exact and3t hg
  obtain ⟨h1, h2, h3⟩ := hc
  have hp := fun w => prefix_is s (by omega) hl w
  rw [h1] at hp
  have HP := Lib.hid hp
  have hR : Wides s 8 (Bp.root s.data.toList) 0 := wides_ok s 8 (by omega) (by omega)
  have hC : Gets s 16 4 (Bp.cost s.data.toList) 0 := gets_ok s 16 4 (by omega) (by decide) (by decide) (by omega)
  have hB : Wides s 20 (Bp.bridge s.data.toList) 0 := wides_ok s 20 (by omega) (by omega)
  have hP : Gets s 28 2 (Bp.port s.data.toList) 0 := gets_ok s 28 2 (by omega) (by decide) (by decide) (by omega)
  have hA : Gets s 30 1 (Bp.age s.data.toList) 0 := gets_ok s 30 1 (by omega) (by decide) (by decide) (by omega)
  obtain ⟨r, hr⟩ : ∃ r, r = Bp.root s.data.toList := ⟨_, rfl⟩
  obtain ⟨c, hcc⟩ : ∃ r, r = Bp.cost s.data.toList := ⟨_, rfl⟩
  obtain ⟨b, hbb⟩ : ∃ r, r = Bp.bridge s.data.toList := ⟨_, rfl⟩
  obtain ⟨p, hpp⟩ : ∃ r, r = Bp.port s.data.toList := ⟨_, rfl⟩
  obtain ⟨a, haa⟩ : ∃ r, r = Bp.age s.data.toList := ⟨_, rfl⟩
  rw [← hr, ← hcc, ← hbb, ← hpp, ← haa]
  rw [← hr] at hR
  rw [← hcc] at hC
  rw [← hbb] at hB
  rw [← hpp] at hP
  rw [← haa] at hA
  clear hr hcc hbb hpp haa hp hg h1
  go_enter Tryz.func42, Tryz.ntmps42
  go_wp2_with (first | ((with_reducible refine (HP.out _).mono ?_); rintro e w0 ⟨rfl, rfl⟩) | ((with_reducible refine (hR.to _).mono ?_); rintro e w1 ⟨rfl, g1⟩; have H1 := hold_next g1 (hold_first s w); have H1q := H1; obtain ⟨H1b, H1z, H1c, H10, H11, H12, H13, H14, H15, H16, H17, H1f, H1y0, H1y1, H1y2, H1y3, H1y4, H1y5, H1y6, H1y7, H1g⟩ := H1q) | ((with_reducible refine (hC.to _).mono ?_); rintro e w2 ⟨rfl, g2⟩; have H2 := hold_next g2 (hold_set0 H1); have H2q := H2; obtain ⟨H2b, H2z, H2c, H20, H21, H22, H23, H24, H25, H26, H27, H2f, H2y0, H2y1, H2y2, H2y3, H2y4, H2y5, H2y6, H2y7, H2g⟩ := H2q) | ((with_reducible refine (hB.to _).mono ?_); rintro e w3 ⟨rfl, g3⟩; have H3 := hold_next g3 (hold_set1 H2); have H3q := H3; obtain ⟨H3b, H3z, H3c, H30, H31, H32, H33, H34, H35, H36, H37, H3f, H3y0, H3y1, H3y2, H3y3, H3y4, H3y5, H3y6, H3y7, H3g⟩ := H3q) | ((with_reducible refine (hP.to _).mono ?_); rintro e w4 ⟨rfl, g4⟩; have H4 := hold_next g4 (hold_set2 H3); have H4q := H4; obtain ⟨H4b, H4z, H4c, H40, H41, H42, H43, H44, H45, H46, H47, H4f, H4y0, H4y1, H4y2, H4y3, H4y4, H4y5, H4y6, H4y7, H4g⟩ := H4q) | ((with_reducible refine (hA.to _).mono ?_); rintro e w5 ⟨rfl, g5⟩; have H5 := hold_next g5 (hold_set3 H4); have H5q := H5; obtain ⟨H5b, H5z, H5c, H50, H51, H52, H53, H54, H55, H56, H57, H5f, H5y0, H5y1, H5y2, H5y3, H5y4, H5y5, H5y6, H5y7, H5g⟩ := H5q; have H6 := hold_set4 (x := .int .i64 a) H5; have H6c := H6.2.2.1) | ((with_reducible refine (has0 s _ (by omega) _ (by exact H6c)).mono ?_); rintro e wh0 ⟨rfl, rfl⟩; obtain ⟨W6, hW6⟩ : ∃ W, W = w5.setCell ⟨w.heap.size + 1 + 1, 4, none⟩ (.int .i64 ↑a) := ⟨_, rfl⟩; rw [← hW6] at H6 ⊢; clear H6c hW6; have H6q := H6; obtain ⟨H6b, H6z, H6c, H60, H61, H62, H63, H64, H65, H66, H67, H6f, H6y0, H6y1, H6y2, H6y3, H6y4, H6y5, H6y6, H6y7, H6g⟩ := H6q) | ((with_reducible refine (has4 s _ (by omega) _ (by exact H6c)).mono ?_); rintro e wh4 ⟨rfl, rfl⟩) | ((with_reducible refine (has5 s _ (by omega) _ (by exact H6c)).mono ?_); rintro e wh5 ⟨rfl, rfl⟩))
  exact bodyPost_ret (v := .tuple #[.agg #[.int .u64 r, .int .i64 c, .int .u64 b, .int .i64 p, .int .i64 a, .bool (Bp.bit s.data.toList 0), .bool (Bp.bit s.data.toList 4), .bool (Bp.bit s.data.toList 5)], .int .i64 0])
    (by simp [results, Tryz.results42, go_sem, H6y0, H6y1, H6y2, H6y3, H6y4, H6y5, H6y6, H6y7]) rfl ⟨rfl, by (repeat (refine Below.setCell ?_ (by simp; try omega) _)); exact H6b⟩
end Go.Proofs.YticdmepplfgdiaaGreatDoor
