/-
  What the document's own Decode (siphonref03) computes. Conditions: those of each case.
-/
import Derived.Test.YthpdfihmpoofaaaEthDec
import Derived.Test.YthpdfihmpoofaaaRAt
import Derived.Lib.Strings
namespace Go.Proofs.Ythpdfihmpoofaaa
open Go.RowKit

theorem Box7.tag3 {W : World} {b : Nat} {v0 v1 v2 v3 v4 v5 v6 x2 x3 x4 : Value} (h : Box7 W b v0 v1 v2 v3 v4 v5 v6) :
    Box7 (((W.setCell ⟨b, 2, none⟩ x2).setCell ⟨b, 4, none⟩ x4).setCell ⟨b, 3, none⟩ x3) b v0 v1 x2 x3 x4 v5 v6 := by
  obtain ⟨z, c0, c1, c2, c3, c4, c5, c6, cf⟩ := h
  refine ⟨by simpa using z, ?_, ?_, ?_, ?_, ?_, ?_, ?_, fun k => by simpa using cf k⟩
  · exact cell_far (by decide) (cell_far (by decide) (cell_far (by decide) c0))
  · exact cell_far (by decide) (cell_far (by decide) (cell_far (by decide) c1))
  · exact cell_far (by decide) (cell_far (by decide) (cell_same c2))
  · exact cell_same (cell_far (by decide) (cell_far (by decide) c3))
  · exact cell_far (by decide) (cell_same (cell_far (by decide) c4))
  · exact cell_far (by decide) (cell_far (by decide) (cell_far (by decide) c5))
  · exact cell_far (by decide) (cell_far (by decide) (cell_far (by decide) c6))

set_option maxRecDepth 100000 in
set_option maxHeartbeats 1000000 in
theorem rethdec_cut (s : ByteArray) (hs : s.size < 14) (w : World) :
    Calls Try.prog 11 #[.string s] w fun e w' => e = .returned (.tuple #[zeroF, .int .i64 2]) ∧ Below w.heap.size w w' := by
  go_enter Try.func11, Try.ntmps11
  go_wp2
  exact bodyPost_ret (v := .tuple #[zeroF, .int .i64 2]) (by simp [zeroF, results, Try.results11, go_sem]) rfl ⟨rfl, by go_grown⟩

theorem from_data (s : ByteArray) (a : Nat) : (s.extract a s.size).data.toList = s.data.toList.drop a := by
  rw [data_extract, List.take_of_length_le (by rw [List.length_drop, size_toList]; omega)]
theorem at2_R (s : ByteArray) (a b : Nat) : at2 (s.extract a s.size) b = at2 s (a + b) := by
  unfold at2
  rw [from_data, List.drop_drop]
theorem ext_R (s : ByteArray) (a b : Nat) : (s.extract a s.size).extract b (s.extract a s.size).size = s.extract (a + b) s.size := by
  apply ba_eq
  rw [from_data, from_data, from_data, List.drop_drop]
theorem two_eq (a b : UInt8) : ([a, b] == [129, 0]) = decide (a.toNat * 256 + b.toNat = 33024) := by
  rw [Bool.eq_iff_iff, beq_iff_eq, decide_eq_true_eq]
  have ha := a.toNat_lt
  have hb := b.toNat_lt
  constructor
  · intro h
    simp only [List.cons.injEq, and_true] at h
    rw [h.1, h.2]; rfl
  · intro h
    have h1 : a = 129 := UInt8.toNat_inj.1 (by show a.toNat = 129; omega)
    have h2 : b = 0 := UInt8.toNat_inj.1 (by show b.toNat = 0; omega)
    rw [h1, h2]
theorem kind_eq (s : ByteArray) (h : 14 ≤ s.size) : (((s.extract 12 s.size).extract 0 2).toList == [129, 0]) = decide (at2 s 12 = 33024) := by
  rw [Lib.toList_data]
  have hd : ((s.extract 12 s.size).extract 0 2).data.toList = (s.data.toList.drop 12).take 2 := by
    rw [data_extract, from_data, List.drop_zero]
  rw [hd]
  obtain ⟨a, b, hab⟩ : ∃ a b, (s.data.toList.drop 12).take 2 = [a, b] := by
    have e := size_toList s
    have hl : ((s.data.toList.drop 12).take 2).length = 2 := by rw [List.length_take, List.length_drop]; omega
    match (s.data.toList.drop 12).take 2, hl with
    | [a, b], _ => exact ⟨a, b, rfl⟩
  unfold at2
  rw [hab, two_eq, show Pl.num [a, b] = a.toNat * 256 + b.toNat from by simp [Pl.num]; omega]

set_option maxRecDepth 100000 in
set_option maxHeartbeats 4000000 in
theorem rethdec_in (s dst src : ByteArray) (v : Value) (x : Int) (hs : 14 ≤ s.size) (hl : s.size ≤ 281474976710656) (e1 : s.extract 0 6 = dst) (e2 : s.extract 6 12 = src) (hcase : FrCase s dst src v x) (w : World) :
    Calls Try.prog 11 #[.string s] w fun e w' => e = .returned (.tuple #[v, .int .i64 x]) ∧ Below w.heap.size w w' := by
  have k1 := slice_to s 6 (by omega) 6 rfl
  have k2 := slice_mid s 6 12 (by omega) (by omega) 6 12 rfl rfl
  rw [e1] at k1
  rw [e2] at k2
  have HC := Lib.hid hcase
  obtain ⟨R, hR⟩ : ∃ R, R = s.extract 12 s.size := ⟨_, rfl⟩
  have kR := slice_from s 12 (by omega) 12 rfl
  rw [← hR] at kR
  have zR : R.size + 12 = s.size := by rw [hR, ByteArray.size_extract]; omega
  obtain ⟨Q, hQ⟩ : ∃ Q, Q = R.extract 0 2 := ⟨_, rfl⟩
  have kQ := slice_to R 2 (by omega) 2 rfl
  rw [← hQ] at kQ
  have hkd : (Q.toList == [129, 0]) = decide (at2 s 12 = 33024) := by rw [hQ, hR]; exact kind_eq s hs
  have hQ2 := hQ.symm
  have hR2 := hR.symm
  have HRR := Lib.hid hR
  have zR2 : 2 ≤ R.size := by omega
  have ZR := Lib.hid zR
  clear e1 e2 hcase hQ hR zR
  go_enter Try.func11, Try.ntmps11
  go_upto_region 3 with (fail)
  go_region_held3 (fun _ => True) (trivial) (fail)
  have F2 : Box7 (((w.alloc (.cells #[.string ⟨#[]⟩, .string ⟨#[]⟩, .bool false, .int .i64 0, .int .i64 0, .int .i64 0, .string ⟨#[]⟩] 24)).alloc (.cells #[.string dst, .string src, .bool false, .int .i64 0, .int .i64 0, .int .i64 0, .string ⟨#[]⟩] 24)).drew) (w.heap.size + 1) (.string dst) (.string src) (.bool false) (.int .i64 0) (.int .i64 0) (.int .i64 0) (.string ⟨#[]⟩) := by
    have h := Box7.drew (Box7.new (w.alloc (.cells #[.string ⟨#[]⟩, .string ⟨#[]⟩, .bool false, .int .i64 0, .int .i64 0, .int .i64 0, .string ⟨#[]⟩] 24)) (.string dst) (.string src) (.bool false) (.int .i64 0) (.int .i64 0) (.int .i64 0) (.string ⟨#[]⟩) 24)
    simp only [World.size_alloc] at h
    exact h
  have R2 : Box7 (((w.alloc (.cells #[.string ⟨#[]⟩, .string ⟨#[]⟩, .bool false, .int .i64 0, .int .i64 0, .int .i64 0, .string ⟨#[]⟩] 24)).alloc (.cells #[.string dst, .string src, .bool false, .int .i64 0, .int .i64 0, .int .i64 0, .string ⟨#[]⟩] 24)).drew) w.heap.size (.string ⟨#[]⟩) (.string ⟨#[]⟩) (.bool false) (.int .i64 0) (.int .i64 0) (.int .i64 0) (.string ⟨#[]⟩) := Box7.drew ((Box7.new w _ _ _ _ _ _ _ _).below (bbox1 _ _))
  have b2 : Below w.heap.size w (((w.alloc (.cells #[.string ⟨#[]⟩, .string ⟨#[]⟩, .bool false, .int .i64 0, .int .i64 0, .int .i64 0, .string ⟨#[]⟩] 24)).alloc (.cells #[.string dst, .string src, .bool false, .int .i64 0, .int .i64 0, .int .i64 0, .string ⟨#[]⟩] 24)).drew) := Below.drew (ball (bbox1 _ _) _)
  generalize (((w.alloc (.cells #[.string ⟨#[]⟩, .string ⟨#[]⟩, .bool false, .int .i64 0, .int .i64 0, .int .i64 0, .string ⟨#[]⟩] 24)).alloc (.cells #[.string dst, .string src, .bool false, .int .i64 0, .int .i64 0, .int .i64 0, .string ⟨#[]⟩] 24)).drew) = wz at F2 R2 b2 ⊢
  have F2q := F2
  have R2q := R2
  obtain ⟨y2, p0, p1, p2, p3, p4, p5, p6, pf⟩ := F2q
  obtain ⟨y3, r0, r1, r2, r3, r4, r5, r6, rf⟩ := R2q
  have hc := HC.out
  unfold FrCase at hc
  clear HC
  have hA0 : 14 ≤ s.size → RAts R 0 2 (at2 s 12 : Nat) := fun _ => by
    have h := rats_ok R 0 2 (by have := ZR.out; omega) (by decide) (by decide) (by omega)
    have e : Pl.num ((R.data.toList.drop 0).take 2) = at2 s 12 := by have q := at2_R s 12 0; rw [← HRR.out] at q; exact q
    rw [e] at h; exact h
  rcases hc with ⟨hk, hz, data, hd, rfl, rfl⟩ | ⟨hk, hz, rfl, rfl⟩ | ⟨hk, hz, rfl, rfl⟩ | ⟨hk, hz, hb, rfl, rfl⟩ | ⟨hk, hz, hb1, hb2, hz2, rfl, rfl⟩ | ⟨hk, hz, hb1, hb2, hz2, data, hd, rfl, rfl⟩
  · -- no tag
    rw [decide_eq_false hk] at hkd
    have hA := hA0 hs
    obtain ⟨kd, ekd⟩ : ∃ k, k = at2 s 12 := ⟨_, rfl⟩
    have HK := Lib.hid ekd
    rw [← ekd] at hA
    have hdd : R.extract 2 R.size = data := by rw [HRR.out, ext_R]; exact hd
    have k3 := slice_from R 2 (by omega) 2 rfl
    rw [hdd] at k3
    have dz : data.size + 14 = s.size := by rw [← hd, ByteArray.size_extract]; omega
    have t2 : decide (2000 < (data.size : Int)) = false := decide_eq_false (by omega)
    clear hk hd dz hA0 ekd hR2
    go_wp2_with ((with_reducible refine (hA.to _).mono ?_); rintro e w4 ⟨rfl, g4⟩; obtain ⟨y4, u0, u1, u2, u3, u4, u5, u6, uf⟩ := R2.below g4; obtain ⟨y5, v0, v1, v2, v3, v4, v5, v6, vf⟩ := F2.below g4)
    refine bodyPost_ret (v := .tuple #[fr dst src false 0 0 kd data, .int .i64 0]) (by simp [fr, results, Try.results11, go_sem, u0, u1, u2, u3, u4, u5, u6]) rfl ⟨by rw [HK.out], by (repeat (with_reducible refine Below.setCell ?_ (by simp; try omega) _)); exact bstep b2 g4⟩
  · -- no tag, too much
    rw [decide_eq_false hk] at hkd
    have hA := hA0 hs
    obtain ⟨data, hd⟩ : ∃ d, s.extract 14 s.size = d := ⟨_, rfl⟩
    have hdd : R.extract 2 R.size = data := by rw [HRR.out, ext_R]; exact hd
    have k3 := slice_from R 2 (by omega) 2 rfl
    rw [hdd] at k3
    have dz : data.size + 14 = s.size := by rw [← hd, ByteArray.size_extract]; omega
    have t2 : decide (2000 < (data.size : Int)) = true := decide_eq_true (by omega)
    obtain ⟨kd, ekd⟩ : ∃ k, k = at2 s 12 := ⟨_, rfl⟩
    rw [← ekd] at hA
    clear hk hd dz hA0 ekd hR2
    go_wp2_with ((with_reducible refine (hA.to _).mono ?_); rintro e w4 ⟨rfl, g4⟩; obtain ⟨y4, u0, u1, u2, u3, u4, u5, u6, uf⟩ := R2.below g4; obtain ⟨y5, v0, v1, v2, v3, v4, v5, v6, vf⟩ := F2.below g4)
    exact bodyPost_ret (v := .tuple #[zeroF, .int .i64 3]) (by simp [zeroF, results, Try.results11, go_sem, u0, u1, u2, u3, u4, u5, u6]) rfl ⟨rfl, by (repeat (with_reducible refine Below.setCell ?_ (by simp; try omega) _)); exact bstep b2 g4⟩
  · -- a tag that is cut off
    rw [decide_eq_true hk] at hkd
    clear hk hA0 hR2
    go_wp2
    exact bodyPost_ret (v := .tuple #[zeroF, .int .i64 2]) (by simp [zeroF, results, Try.results11, go_sem, r0, r1, r2, r3, r4, r5, r6]) rfl ⟨rfl, by (repeat (with_reducible refine Below.setCell ?_ (by simp; try omega) _)); exact b2⟩
  · -- a tag that may not be
    rw [decide_eq_true hk] at hkd
    have hT := at2_lt s 14
    have hY := at2_lt s 16
    obtain ⟨T, eT⟩ : ∃ T, T = at2 s 14 := ⟨_, rfl⟩
    obtain ⟨Y, eY⟩ : ∃ T, T = at2 s 16 := ⟨_, rfl⟩
    have hA : RAts R 2 2 (T : Nat) := by
      have h := rats_ok R 2 2 (by have := ZR.out; omega) (by decide) (by decide) (by have := ZR.out; omega)
      have e : Pl.num ((R.data.toList.drop 2).take 2) = T := by have q := at2_R s 12 2; rw [← HRR.out] at q; rw [eT]; exact q
      rw [e] at h; exact h
    obtain ⟨S, hS⟩ : ∃ S, S = R.extract 4 R.size := ⟨_, rfl⟩
    have kS := slice_from R 4 (by have := ZR.out; omega) 4 rfl
    rw [← hS] at kS
    have hS2 : S = s.extract 16 s.size := by rw [hS, HRR.out, ext_R]
    have zS : S.size + 16 = s.size := by rw [hS2, ByteArray.size_extract]; omega
    have hB : RAts S 0 2 (Y : Nat) := by
      have h := rats_ok S 0 2 (by omega) (by decide) (by decide) (by omega)
      have e : Pl.num ((S.data.toList.drop 0).take 2) = Y := by have q := at2_R s 16 0; rw [← hS2] at q; rw [eY]; exact q
      rw [e] at h; exact h
    have hS3 := hS.symm
    obtain ⟨A, eA⟩ : ∃ A, A = T % 4096 := ⟨_, rfl⟩
    obtain ⟨C, eC⟩ : ∃ A, A = T / 4096 % 2 := ⟨_, rfl⟩
    obtain ⟨D, eD⟩ : ∃ A, A = T / 8192 := ⟨_, rfl⟩
    have q2 : (T : Int) % 4096 = (A : Int) := by omega
    have q3 : (T : Int) / 4096 % 2 = (C : Int) := by omega
    have q4 : (T : Int) / 8192 = (D : Int) := by omega
    rw [← eT] at hT hb
    have hb' : ((C : Int) == 1) = true ∨ (((C : Int) == 1) = false ∧ ((A : Int) == 4095) = true) := by
      rw [beq_iff_eq, beq_iff_eq, beq_eq_false_iff_ne]; omega
    clear hk hb eT eY eA eC eD hA0 hR2 hS hS2 kS hS3 zS
    rcases hb' with a1 | ⟨a1, a2⟩
    all_goals
      go_wp2_with ((with_reducible refine (hA.to _).mono ?_); rintro e w4 ⟨rfl, g4⟩; obtain ⟨y4, u0, u1, u2, u3, u4, u5, u6, uf⟩ := R2.below g4; obtain ⟨y5, v0, v1, v2, v3, v4, v5, v6, vf⟩ := F2.below g4)
      exact bodyPost_ret (v := .tuple #[zeroF, .int .i64 3]) (by simp [zeroF, results, Try.results11, go_sem, u0, u1, u2, u3, u4, u5, u6]) rfl ⟨rfl, by (repeat (with_reducible refine Below.setCell ?_ (by simp; try omega) _)); exact bstep b2 g4⟩
  · -- a tag, too much behind it
    rw [decide_eq_true hk] at hkd
    have hT := at2_lt s 14
    have hY := at2_lt s 16
    obtain ⟨T, eT⟩ : ∃ T, T = at2 s 14 := ⟨_, rfl⟩
    obtain ⟨Y, eY⟩ : ∃ T, T = at2 s 16 := ⟨_, rfl⟩
    have hA : RAts R 2 2 (T : Nat) := by
      have h := rats_ok R 2 2 (by have := ZR.out; omega) (by decide) (by decide) (by have := ZR.out; omega)
      have e : Pl.num ((R.data.toList.drop 2).take 2) = T := by have q := at2_R s 12 2; rw [← HRR.out] at q; rw [eT]; exact q
      rw [e] at h; exact h
    obtain ⟨S, hS⟩ : ∃ S, S = R.extract 4 R.size := ⟨_, rfl⟩
    have kS := slice_from R 4 (by have := ZR.out; omega) 4 rfl
    rw [← hS] at kS
    have hS2 : S = s.extract 16 s.size := by rw [hS, HRR.out, ext_R]
    have zS : S.size + 16 = s.size := by rw [hS2, ByteArray.size_extract]; omega
    have hB : RAts S 0 2 (Y : Nat) := by
      have h := rats_ok S 0 2 (by omega) (by decide) (by decide) (by omega)
      have e : Pl.num ((S.data.toList.drop 0).take 2) = Y := by have q := at2_R s 16 0; rw [← hS2] at q; rw [eY]; exact q
      rw [e] at h; exact h
    have hS3 := hS.symm
    obtain ⟨A, eA⟩ : ∃ A, A = T % 4096 := ⟨_, rfl⟩
    obtain ⟨C, eC⟩ : ∃ A, A = T / 4096 % 2 := ⟨_, rfl⟩
    obtain ⟨D, eD⟩ : ∃ A, A = T / 8192 := ⟨_, rfl⟩
    have q2 : (T : Int) % 4096 = (A : Int) := by omega
    have q3 : (T : Int) / 4096 % 2 = (C : Int) := by omega
    have q4 : (T : Int) / 8192 = (D : Int) := by omega
    rw [← eT] at hT hb1 hb2
    have a1 : ((C : Int) == 1) = false := by rw [beq_eq_false_iff_ne]; omega
    have a2 : ((A : Int) == 4095) = false := by rw [beq_eq_false_iff_ne]; omega
    obtain ⟨data, hd⟩ : ∃ d, s.extract 18 s.size = d := ⟨_, rfl⟩
    have hdd : S.extract 2 S.size = data := by rw [hS2, ext_R]; exact hd
    have k3 := slice_from S 2 (by omega) 2 rfl
    rw [hdd] at k3
    have dz : data.size + 18 = s.size := by rw [← hd, ByteArray.size_extract]; omega
    have t2 : decide (2000 < (data.size : Int)) = true := decide_eq_true (by omega)
    have zS2 : 2 ≤ S.size := by omega
    have zR4 : 4 ≤ R.size := by have := ZR.out; omega
    clear hk hb1 hb2 eT eY eA eC eD hA0 hR2 hS hS2 zS hd dz
    go_wp2_with (first | ((with_reducible refine (hA.to _).mono ?_); rintro e w4 ⟨rfl, g4⟩; obtain ⟨y4, u0, u1, u2, u3, u4, u5, u6, uf⟩ := R2.below g4; obtain ⟨y5, v0, v1, v2, v3, v4, v5, v6, vf⟩ := F2.below g4) | ((with_reducible refine (hB.to _).mono ?_); rintro e w5 ⟨rfl, g5⟩; obtain ⟨y6, m0, m1, m2, m3, m4, m5, m6, mf⟩ := ((((R2.below g4).put (by omega)).put (by omega)).put (by omega)).below g5; obtain ⟨y7, n0, n1, n2, n3, n4, n5, n6, nf⟩ := (F2.below g4).tag3.below g5))
    exact bodyPost_ret (v := .tuple #[zeroF, .int .i64 3]) (by simp [zeroF, results, Try.results11, go_sem, m0, m1, m2, m3, m4, m5, m6]) rfl ⟨rfl, by (repeat (with_reducible refine Below.setCell ?_ (by simp; try omega) _)); exact bstep (((((bstep b2 g4).setCell (by simp) _).setCell (by simp) _).setCell (by simp) _)) g5⟩
  · -- a tag
    rw [decide_eq_true hk] at hkd
    have hT := at2_lt s 14
    have hY := at2_lt s 16
    obtain ⟨T, eT⟩ : ∃ T, T = at2 s 14 := ⟨_, rfl⟩
    obtain ⟨Y, eY⟩ : ∃ T, T = at2 s 16 := ⟨_, rfl⟩
    have hA : RAts R 2 2 (T : Nat) := by
      have h := rats_ok R 2 2 (by have := ZR.out; omega) (by decide) (by decide) (by have := ZR.out; omega)
      have e : Pl.num ((R.data.toList.drop 2).take 2) = T := by have q := at2_R s 12 2; rw [← HRR.out] at q; rw [eT]; exact q
      rw [e] at h; exact h
    obtain ⟨S, hS⟩ : ∃ S, S = R.extract 4 R.size := ⟨_, rfl⟩
    have kS := slice_from R 4 (by have := ZR.out; omega) 4 rfl
    rw [← hS] at kS
    have hS2 : S = s.extract 16 s.size := by rw [hS, HRR.out, ext_R]
    have zS : S.size + 16 = s.size := by rw [hS2, ByteArray.size_extract]; omega
    have hB : RAts S 0 2 (Y : Nat) := by
      have h := rats_ok S 0 2 (by omega) (by decide) (by decide) (by omega)
      have e : Pl.num ((S.data.toList.drop 0).take 2) = Y := by have q := at2_R s 16 0; rw [← hS2] at q; rw [eY]; exact q
      rw [e] at h; exact h
    have hS3 := hS.symm
    obtain ⟨A, eA⟩ : ∃ A, A = T % 4096 := ⟨_, rfl⟩
    obtain ⟨C, eC⟩ : ∃ A, A = T / 4096 % 2 := ⟨_, rfl⟩
    obtain ⟨D, eD⟩ : ∃ A, A = T / 8192 := ⟨_, rfl⟩
    have q2 : (T : Int) % 4096 = (A : Int) := by omega
    have q3 : (T : Int) / 4096 % 2 = (C : Int) := by omega
    have q4 : (T : Int) / 8192 = (D : Int) := by omega
    have hv : fr dst src true (at2 s 14 % 4096 : Nat) (at2 s 14 / 8192 : Nat) (at2 s 16 : Nat) data = fr dst src true A D Y data := by rw [← eT, ← eY, eA, eD]
    have HV := Lib.hid hv
    rw [← eT] at hT hb1 hb2
    have a1 : ((C : Int) == 1) = false := by rw [beq_eq_false_iff_ne]; omega
    have a2 : ((A : Int) == 4095) = false := by rw [beq_eq_false_iff_ne]; omega
    have hdd : S.extract 2 S.size = data := by rw [hS2, ext_R]; exact hd
    have k3 := slice_from S 2 (by omega) 2 rfl
    rw [hdd] at k3
    have dz : data.size + 18 = s.size := by rw [← hd, ByteArray.size_extract]; omega
    have t2 : decide (2000 < (data.size : Int)) = false := decide_eq_false (by omega)
    have zS2 : 2 ≤ S.size := by omega
    have zR4 : 4 ≤ R.size := by have := ZR.out; omega
    clear hk hb1 hb2 eT eY eA eC eD hA0 hR2 hS hS2 zS hd dz hv
    go_wp2_with (first | ((with_reducible refine (hA.to _).mono ?_); rintro e w4 ⟨rfl, g4⟩; obtain ⟨y4, u0, u1, u2, u3, u4, u5, u6, uf⟩ := R2.below g4; obtain ⟨y5, v0, v1, v2, v3, v4, v5, v6, vf⟩ := F2.below g4) | ((with_reducible refine (hB.to _).mono ?_); rintro e w5 ⟨rfl, g5⟩; obtain ⟨y6, m0, m1, m2, m3, m4, m5, m6, mf⟩ := ((((R2.below g4).put (by omega)).put (by omega)).put (by omega)).below g5; obtain ⟨y7, n0, n1, n2, n3, n4, n5, n6, nf⟩ := (F2.below g4).tag3.below g5))
    refine bodyPost_ret (v := .tuple #[fr dst src true A D Y data, .int .i64 0]) (by simp [fr, results, Try.results11, go_sem, m0, m1, m2, m3, m4, m5, m6]) rfl ⟨by rw [HV.out], by (repeat (with_reducible refine Below.setCell ?_ (by simp; try omega) _)); exact bstep (((((bstep b2 g4).setCell (by simp) _).setCell (by simp) _).setCell (by simp) _)) g5⟩

def RDecE (s : ByteArray) (v : Value) (x : Int) : Prop :=
  ∀ w : World, Calls Try.prog 11 #[.string s] w fun e w' => e = .returned (.tuple #[v, .int .i64 x]) ∧ Below w.heap.size w w'
theorem RDecE.to {s : ByteArray} {v : Value} {x : Int} (h : RDecE s v x) (w : World) : Calls Try.prog 11 #[.string s] w fun e w' => e = .returned (.tuple #[v, .int .i64 x]) ∧ Below w.heap.size w w' := h w
end Go.Proofs.Ythpdfihmpoofaaa
