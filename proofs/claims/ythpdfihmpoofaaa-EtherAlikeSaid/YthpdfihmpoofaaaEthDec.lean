/-
  What the program's ether.Decode computes. Conditions: those of each case.
-/
import Derived.Test.YthpdfihmpoofaaaEth
import Derived.Test.YthpdfihmpoofaaaGet
namespace Go.Proofs.Ythpdfihmpoofaaa
open Go.RowKit

theorem slice_from (s : ByteArray) (a : Nat) (h : a ≤ s.size) (x : Int) (hx : x = a) (w : World) : (Instr.slice 9 (.string s) (some (.int .i64 x)) none none).run Try.prog w = .ok (.string (s.extract a s.size)) w := by
  subst hx
  rw [run_slice_string_from_if (P := Try.prog) w 9 s .i64 (a : Int) Try.underlying9, if_pos ⟨by omega, by omega⟩]
  rfl
theorem slice_to (s : ByteArray) (a : Nat) (h : a ≤ s.size) (x : Int) (hx : x = a) (w : World) : (Instr.slice 9 (.string s) none (some (.int .i64 x)) none).run Try.prog w = .ok (.string (s.extract 0 a)) w := by
  subst hx
  rw [run_slice_string_to_if (P := Try.prog) w 9 s .i64 (a : Int) Try.underlying9, if_pos ⟨by omega, by omega⟩]
  rfl
theorem slice_mid (s : ByteArray) (a b : Nat) (h1 : a ≤ b) (h2 : b ≤ s.size) (x y : Int) (hx : x = a) (hy : y = b) (w : World) : (Instr.slice 9 (.string s) (some (.int .i64 x)) (some (.int .i64 y)) none).run Try.prog w = .ok (.string (s.extract a b)) w := by
  subst hx hy
  rw [run_slice_string_if (P := Try.prog) (w := w) 9 s .i64 .i64 (a : Int) (b : Int) Try.underlying9, if_pos ⟨by omega, by omega⟩, if_pos ⟨by omega, by omega⟩]
  rfl

def fr (dst src : ByteArray) (tg : Bool) (vl pr ty : Int) (data : ByteArray) : Value := .agg #[.string dst, .string src, .bool tg, .int .i64 vl, .int .i64 pr, .int .i64 ty, .string data]
def zeroF : Value := .agg #[.string ⟨#[]⟩, .string ⟨#[]⟩, .bool false, .int .i64 0, .int .i64 0, .int .i64 0, .string ⟨#[]⟩]

/-- the number that two bytes are, from a place on -/
def at2 (s : ByteArray) (a : Nat) : Nat := Pl.num ((s.data.toList.drop a).take 2)
theorem at2_lt (s : ByteArray) (a : Nat) : at2 s a < 65536 := by
  have h := Pl.num_lt ((s.data.toList.drop a).take 2)
  have h2 : 256 ^ ((s.data.toList.drop a).take 2).length ≤ 256 ^ 2 := Nat.pow_le_pow_right (by decide) (by rw [List.length_take]; omega)
  unfold at2; omega
theorem at4_is (s : ByteArray) (a : Nat) (h : a + 4 ≤ s.size) : Pl.num ((s.data.toList.drop a).take 4) = at2 s a * 65536 + at2 s (a + 2) := by
  have e := size_toList s
  have hs : (s.data.toList.drop a).take 4 = (s.data.toList.drop a).take 2 ++ (s.data.toList.drop (a + 2)).take 2 := by
    rw [show 4 = 2 + 2 from rfl, List.take_add, List.drop_drop]
  rw [hs, Pl.num_append, List.length_take, List.length_drop, Nat.min_eq_left (by omega)]
  rfl

/-- what comes of a frame's bytes, fourteen at least -/
def FrCase (s dst src : ByteArray) (v : Value) (e : Int) : Prop :=
  (at2 s 12 ≠ 33024 ∧ s.size ≤ 2014 ∧ ∃ data, s.extract 14 s.size = data ∧ v = fr dst src false 0 0 (at2 s 12 : Nat) data ∧ e = 0) ∨
  (at2 s 12 ≠ 33024 ∧ 2014 < s.size ∧ v = zeroF ∧ e = 3) ∨
  (at2 s 12 = 33024 ∧ s.size < 18 ∧ v = zeroF ∧ e = 2) ∨
  (at2 s 12 = 33024 ∧ 18 ≤ s.size ∧ (at2 s 14 / 4096 % 2 = 1 ∨ at2 s 14 % 4096 = 4095) ∧ v = zeroF ∧ e = 3) ∨
  (at2 s 12 = 33024 ∧ 18 ≤ s.size ∧ at2 s 14 / 4096 % 2 = 0 ∧ at2 s 14 % 4096 ≠ 4095 ∧ 2018 < s.size ∧ v = zeroF ∧ e = 3) ∨
  (at2 s 12 = 33024 ∧ 18 ≤ s.size ∧ at2 s 14 / 4096 % 2 = 0 ∧ at2 s 14 % 4096 ≠ 4095 ∧ s.size ≤ 2018 ∧ ∃ data, s.extract 18 s.size = data ∧ v = fr dst src true (at2 s 14 % 4096 : Nat) (at2 s 14 / 8192 : Nat) (at2 s 16 : Nat) data ∧ e = 0)

set_option maxRecDepth 100000 in
set_option maxHeartbeats 1000000 in
theorem ethdec_cut (s : ByteArray) (hs : s.size < 14) (w : World) :
    Calls Try.prog 10 #[.string s] w fun e w' => e = .returned (.tuple #[zeroF, .int .i64 2]) ∧ Below w.heap.size w w' := by
  have hG : Gets s 12 2 0 2 := gets_cut s 12 2 (by omega) (by decide) (by decide) (by decide) (by omega)
  go_enter Try.func10, Try.ntmps10
  go_wp2_with ((with_reducible refine (hG.to _).mono ?_); rintro e w1 ⟨rfl, g1⟩; obtain ⟨z, c0, c1, c2, c3, c4, c5, c6, cf⟩ := (Box7.new _ _ _ _ _ _ _ _ _).below g1)
  exact bodyPost_ret (v := .tuple #[zeroF, .int .i64 2]) (by simp [zeroF, results, Try.results10, go_sem, c0, c1, c2, c3, c4, c5, c6]) rfl ⟨rfl, by (repeat (with_reducible refine Below.setCell ?_ (by simp) _)); exact bstep (bbox1 _ _) g1⟩

theorem and_4095 (t : Nat) (h : t < 65536) : bits BinOp.and IntKind.i64 (t : Int) 4095 = ((t % 4096 : Nat) : Int) := by
  rw [show (4095 : Int) = ((4095 : Nat) : Int) from rfl, i64_and_nat _ _ (by omega) (by omega)]
  congr 1
  exact Nat.and_two_pow_sub_one_eq_mod t 12
theorem and_65535 (t : Nat) (h : t < 4294967296) : bits BinOp.and IntKind.i64 (t : Int) 65535 = ((t % 65536 : Nat) : Int) := by
  rw [show (65535 : Int) = ((65535 : Nat) : Int) from rfl, i64_and_nat _ _ (by omega) (by omega)]
  congr 1
  exact Nat.and_two_pow_sub_one_eq_mod t 16
theorem and_one (t : Nat) (h : t < 65536) : bits BinOp.and IntKind.i64 (t : Int) 1 = ((t % 2 : Nat) : Int) := by
  rw [show (1 : Int) = ((1 : Nat) : Int) from rfl, i64_and_nat _ _ (by omega) (by omega), Nat.and_one_is_mod]

set_option maxRecDepth 100000 in
set_option maxHeartbeats 4000000 in
theorem ethdec_in (s dst src : ByteArray) (v : Value) (x : Int) (hs : 14 ≤ s.size) (hl : s.size ≤ 281474976710656) (e1 : s.extract 0 6 = dst) (e2 : s.extract 6 12 = src) (hcase : FrCase s dst src v x) (w : World) :
    Calls Try.prog 10 #[.string s] w fun e w' => e = .returned (.tuple #[v, .int .i64 x]) ∧ Below w.heap.size w w' := by
  have hG : Gets s 12 2 (at2 s 12 : Nat) 0 := gets_ok s 12 2 (by omega) (by decide) (by decide) (by omega)
  have k1 := slice_to s 6 (by omega) 6 rfl
  have k2 := slice_mid s 6 12 (by omega) (by omega) 6 12 rfl rfl
  rw [e1] at k1
  rw [e2] at k2
  have HC := Lib.hid hcase
  have hK := at2_lt s 12
  obtain ⟨kd, hkd⟩ : ∃ k, k = at2 s 12 := ⟨_, rfl⟩
  have HKD := Lib.hid hkd
  rw [← hkd] at hG hK
  clear e1 e2 hcase hkd
  go_enter Try.func10, Try.ntmps10
  go_upto_region 4 with ((with_reducible refine (hG.to _).mono ?_); rintro e w1 ⟨rfl, g1⟩; have B1 := (Box7.new _ _ _ _ _ _ _ _ _).below g1)
  go_region_held3 (fun _ => True) (trivial) (fail)
  have F2 : Box7 ((w1.alloc (.cells #[.string dst, .string src, .bool false, .int .i64 0, .int .i64 0, .int .i64 0, .string ⟨#[]⟩] 24)).drew) w1.heap.size (.string dst) (.string src) (.bool false) (.int .i64 0) (.int .i64 0) (.int .i64 0) (.string ⟨#[]⟩) := Box7.new w1 _ _ _ _ _ _ _ _
  have R2 : Box7 ((w1.alloc (.cells #[.string dst, .string src, .bool false, .int .i64 0, .int .i64 0, .int .i64 0, .string ⟨#[]⟩] 24)).drew) w.heap.size _ _ _ _ _ _ _ := B1.below (Below.drew (bbox1 w1 _))
  have b2 : Below w.heap.size w ((w1.alloc (.cells #[.string dst, .string src, .bool false, .int .i64 0, .int .i64 0, .int .i64 0, .string ⟨#[]⟩] 24)).drew) := Below.drew (ball (bstep (bbox1 _ _) g1) _)
  have hlt : w.heap.size < w1.heap.size := B1.1
  generalize ((w1.alloc (.cells #[.string dst, .string src, .bool false, .int .i64 0, .int .i64 0, .int .i64 0, .string ⟨#[]⟩] 24)).drew) = wz at F2 R2 b2 ⊢
  have F2q := F2
  have R2q := R2
  obtain ⟨y2, p0, p1, p2, p3, p4, p5, p6, pf⟩ := F2q
  obtain ⟨y3, r0, r1, r2, r3, r4, r5, r6, rf⟩ := R2q
  have hc := HC.out
  unfold FrCase at hc
  rw [← HKD.out] at hc
  clear HC
  rcases hc with ⟨hk, hz, data, hd, rfl, rfl⟩ | ⟨hk, hz, rfl, rfl⟩ | ⟨hk, hz, rfl, rfl⟩ | ⟨hk, hz, hb, rfl, rfl⟩ | ⟨hk, hz, hb1, hb2, hz2, rfl, rfl⟩ | ⟨hk, hz, hb1, hb2, hz2, data, hd, rfl, rfl⟩
  · -- no tag
    have t1 : ((kd : Int) == 33024) = false := by rw [beq_eq_false_iff_ne]; omega
    have k3 := slice_from s 14 (by omega) 14 rfl
    rw [hd] at k3
    have dz : data.size + 14 = s.size := by rw [← hd, ByteArray.size_extract]; omega
    have t2 : decide (2000 < (data.size : Int)) = false := decide_eq_false (by omega)
    clear hk hd dz HKD
    go_wp2_with fail
    go_region_held3 (fun _ => True) (trivial) (fail)
    go_wp2
    exact bodyPost_ret (v := .tuple #[fr dst src false 0 0 kd data, .int .i64 0]) (by simp [fr, results, Try.results10, go_sem, r0, r1, r2, r3, r4, r5, r6]) rfl ⟨rfl, by refine Below.drew ?_; (repeat (with_reducible refine Below.setCell ?_ (by simp; try omega) _)); exact b2⟩
  · -- no tag, too much
    have t1 : ((kd : Int) == 33024) = false := by rw [beq_eq_false_iff_ne]; omega
    obtain ⟨data, hd⟩ : ∃ d, s.extract 14 s.size = d := ⟨_, rfl⟩
    have k3 := slice_from s 14 (by omega) 14 rfl
    rw [hd] at k3
    have dz : data.size + 14 = s.size := by rw [← hd, ByteArray.size_extract]; omega
    have t2 : decide (2000 < (data.size : Int)) = true := decide_eq_true (by omega)
    clear hk hd dz HKD
    go_wp2_with fail
    go_region_held3 (fun _ => True) (trivial) (fail)
    go_wp2
    exact bodyPost_ret (v := .tuple #[zeroF, .int .i64 3]) (by simp [zeroF, results, Try.results10, go_sem, r0, r1, r2, r3, r4, r5, r6]) rfl ⟨rfl, by refine Below.drew ?_; (repeat (with_reducible refine Below.setCell ?_ (by simp; try omega) _)); exact b2⟩
  · -- a tag that is cut off
    have t1 : ((kd : Int) == 33024) = true := by rw [beq_iff_eq]; omega
    have hG2 : Gets s 14 4 0 2 := gets_cut s 14 4 (by omega) (by decide) (by decide) (by decide) (by omega)
    clear hk HKD
    go_wp2_with ((with_reducible refine (hG2.to _).mono ?_); rintro e w4 ⟨rfl, g4⟩; obtain ⟨y4, u0, u1, u2, u3, u4, u5, u6, uf⟩ := R2.below g4)
    exact bodyPost_ret (v := .tuple #[zeroF, .int .i64 2]) (by simp [zeroF, results, Try.results10, go_sem, u0, u1, u2, u3, u4, u5, u6]) rfl ⟨rfl, by (repeat (with_reducible refine Below.setCell ?_ (by simp; try omega) _)); exact bstep b2 g4⟩
  · -- a tag that may not be
    have t1 : ((kd : Int) == 33024) = true := by rw [beq_iff_eq]; omega
    have hT := at2_lt s 14
    have hY := at2_lt s 16
    have h4 : Pl.num ((s.data.toList.drop 14).take 4) = at2 s 14 * 65536 + at2 s 16 := at4_is s 14 (by omega)
    obtain ⟨T, eT⟩ : ∃ T, T = at2 s 14 := ⟨_, rfl⟩
    obtain ⟨Y, eY⟩ : ∃ T, T = at2 s 16 := ⟨_, rfl⟩
    rw [← eT, ← eY] at h4
    rw [← eT] at hT hb
    rw [← eY] at hY
    have hG2 : Gets s 14 4 (T * 65536 + Y : Nat) 0 := by
      have h := gets_ok s 14 4 (by omega) (by decide) (by decide) (by omega)
      rw [h4] at h; exact h
    obtain ⟨M, eM⟩ : ∃ M, M = T * 65536 + Y := ⟨_, rfl⟩
    rw [← eM] at hG2
    have q1 : (M : Int) / 65536 = (T : Int) := by omega
    have q2 := and_4095 T hT
    have q3 : bits BinOp.and IntKind.i64 ((T : Int) / 4096) 1 = ((T / 4096 % 2 : Nat) : Int) := by
      rw [show (T : Int) / 4096 = ((T / 4096 : Nat) : Int) from by omega]; exact and_one _ (by omega)
    obtain ⟨A, eA⟩ : ∃ A, A = T % 4096 := ⟨_, rfl⟩
    obtain ⟨C, eC⟩ : ∃ A, A = T / 4096 % 2 := ⟨_, rfl⟩
    rw [← eA] at q2
    rw [← eC] at q3
    have hb' : ((C : Int) == 1) = true ∨ (((C : Int) == 1) = false ∧ ((A : Int) == 4095) = true) := by
      rw [beq_iff_eq, beq_iff_eq, beq_eq_false_iff_ne]; omega
    have hM : M ≤ 4294967295 := by omega
    clear hk HKD hb eT eY eM eA eC h4
    rcases hb' with a1 | ⟨a1, a2⟩
    all_goals
      go_wp2_with ((with_reducible refine (hG2.to _).mono ?_); rintro e w4 ⟨rfl, g4⟩; obtain ⟨y4, u0, u1, u2, u3, u4, u5, u6, uf⟩ := R2.below g4; obtain ⟨y5, v0, v1, v2, v3, v4, v5, v6, vf⟩ := F2.below g4)
      exact bodyPost_ret (v := .tuple #[zeroF, .int .i64 3]) (by simp [zeroF, results, Try.results10, go_sem, u0, u1, u2, u3, u4, u5, u6]) rfl ⟨rfl, by (repeat (with_reducible refine Below.setCell ?_ (by simp; try omega) _)); exact bstep b2 g4⟩
  · -- a tag, too much behind it
    have t1 : ((kd : Int) == 33024) = true := by rw [beq_iff_eq]; omega
    have hT := at2_lt s 14
    have hY := at2_lt s 16
    have h4 : Pl.num ((s.data.toList.drop 14).take 4) = at2 s 14 * 65536 + at2 s 16 := at4_is s 14 (by omega)
    obtain ⟨T, eT⟩ : ∃ T, T = at2 s 14 := ⟨_, rfl⟩
    obtain ⟨Y, eY⟩ : ∃ T, T = at2 s 16 := ⟨_, rfl⟩
    rw [← eT, ← eY] at h4
    rw [← eT] at hT hb1 hb2
    rw [← eY] at hY
    have hG2 : Gets s 14 4 (T * 65536 + Y : Nat) 0 := by
      have h := gets_ok s 14 4 (by omega) (by decide) (by decide) (by omega)
      rw [h4] at h; exact h
    obtain ⟨M, eM⟩ : ∃ M, M = T * 65536 + Y := ⟨_, rfl⟩
    rw [← eM] at hG2
    have q1 : (M : Int) / 65536 = (T : Int) := by omega
    have q2 := and_4095 T hT
    have q3 : bits BinOp.and IntKind.i64 ((T : Int) / 4096) 1 = ((T / 4096 % 2 : Nat) : Int) := by
      rw [show (T : Int) / 4096 = ((T / 4096 : Nat) : Int) from by omega]; exact and_one _ (by omega)
    have q5 : bits BinOp.and IntKind.i64 (M : Int) 65535 = (Y : Int) := by
      rw [and_65535 M (by omega), eM]; omega
    obtain ⟨A, eA⟩ : ∃ A, A = T % 4096 := ⟨_, rfl⟩
    obtain ⟨C, eC⟩ : ∃ A, A = T / 4096 % 2 := ⟨_, rfl⟩
    obtain ⟨D, eD⟩ : ∃ A, A = T / 8192 := ⟨_, rfl⟩
    have q4 : (T : Int) / 8192 = (D : Int) := by omega
    rw [← eA] at q2
    rw [← eC] at q3
    have a1 : ((C : Int) == 1) = false := by rw [beq_eq_false_iff_ne]; omega
    have a2 : ((A : Int) == 4095) = false := by rw [beq_eq_false_iff_ne]; omega
    have hM : M ≤ 4294967295 := by omega
    obtain ⟨data, hd⟩ : ∃ d, s.extract 18 s.size = d := ⟨_, rfl⟩
    have k3 := slice_from s 18 (by omega) 18 rfl
    rw [hd] at k3
    have dz : data.size + 18 = s.size := by rw [← hd, ByteArray.size_extract]; omega
    have t2 : decide (2000 < (data.size : Int)) = true := decide_eq_true (by omega)
    clear hk HKD hb1 hb2 eT eY eM eA eC eD h4 hd dz
    go_wp2_with ((with_reducible refine (hG2.to _).mono ?_); rintro e w4 ⟨rfl, g4⟩; obtain ⟨y4, u0, u1, u2, u3, u4, u5, u6, uf⟩ := R2.below g4; obtain ⟨y5, v0, v1, v2, v3, v4, v5, v6, vf⟩ := F2.below g4)
    go_region_held3 (fun _ => True) (trivial) (fail)
    have F9 : Box7 ((((((w4.setCell ⟨w1.heap.size, 2, none⟩ (.bool true)).setCell ⟨w1.heap.size, 4, none⟩ (.int .i64 (D : Int))).setCell ⟨w1.heap.size, 3, none⟩ (.int .i64 (A : Int))).setCell ⟨w1.heap.size, 5, none⟩ (.int .i64 (Y : Int))).setCell ⟨w1.heap.size, 6, none⟩ (.string data)).drew) w1.heap.size _ _ _ _ _ _ _ := (F2.below g4).tagged.drew
    have R9 : Box7 ((((((w4.setCell ⟨w1.heap.size, 2, none⟩ (.bool true)).setCell ⟨w1.heap.size, 4, none⟩ (.int .i64 (D : Int))).setCell ⟨w1.heap.size, 3, none⟩ (.int .i64 (A : Int))).setCell ⟨w1.heap.size, 5, none⟩ (.int .i64 (Y : Int))).setCell ⟨w1.heap.size, 6, none⟩ (.string data)).drew) w.heap.size _ _ _ _ _ _ _ := ((((((R2.below g4).put (by omega)).put (by omega)).put (by omega)).put (by omega)).put (by omega)).drew
    have b9 : Below w.heap.size w ((((((w4.setCell ⟨w1.heap.size, 2, none⟩ (.bool true)).setCell ⟨w1.heap.size, 4, none⟩ (.int .i64 (D : Int))).setCell ⟨w1.heap.size, 3, none⟩ (.int .i64 (A : Int))).setCell ⟨w1.heap.size, 5, none⟩ (.int .i64 (Y : Int))).setCell ⟨w1.heap.size, 6, none⟩ (.string data)).drew) := Below.drew ((((((bstep b2 g4).setCell (by simp; omega) _).setCell (by simp; omega) _).setCell (by simp; omega) _).setCell (by simp; omega) _).setCell (by simp; omega) _)
    generalize ((((((w4.setCell ⟨w1.heap.size, 2, none⟩ (.bool true)).setCell ⟨w1.heap.size, 4, none⟩ (.int .i64 (D : Int))).setCell ⟨w1.heap.size, 3, none⟩ (.int .i64 (A : Int))).setCell ⟨w1.heap.size, 5, none⟩ (.int .i64 (Y : Int))).setCell ⟨w1.heap.size, 6, none⟩ (.string data)).drew) = w9 at F9 R9 b9 ⊢
    obtain ⟨y8, s0, s1, s2, s3, s4, s5, s6, sf⟩ := F9
    obtain ⟨y9, z0, z1, z2, z3, z4, z5, z6, zf⟩ := R9
    clear u0 u1 u2 u3 u4 u5 u6 uf v0 v1 v2 v3 v4 v5 v6 vf
    go_wp2
    exact bodyPost_ret (v := .tuple #[zeroF, .int .i64 3]) (by simp [zeroF, results, Try.results10, go_sem, z0, z1, z2, z3, z4, z5, z6]) rfl ⟨rfl, by (repeat (with_reducible refine Below.setCell ?_ (by simp; try omega) _)); exact b9⟩
  · -- a tag
    have hY2 : at2 s 16 < 65536 := at2_lt s 16
    have t1 : ((kd : Int) == 33024) = true := by rw [beq_iff_eq]; omega
    have hT := at2_lt s 14
    have hY := at2_lt s 16
    have h4 : Pl.num ((s.data.toList.drop 14).take 4) = at2 s 14 * 65536 + at2 s 16 := at4_is s 14 (by omega)
    obtain ⟨T, eT⟩ : ∃ T, T = at2 s 14 := ⟨_, rfl⟩
    obtain ⟨Y, eY⟩ : ∃ T, T = at2 s 16 := ⟨_, rfl⟩
    rw [← eT, ← eY] at h4
    rw [← eT] at hT hb1 hb2
    rw [← eY] at hY
    have hG2 : Gets s 14 4 (T * 65536 + Y : Nat) 0 := by
      have h := gets_ok s 14 4 (by omega) (by decide) (by decide) (by omega)
      rw [h4] at h; exact h
    obtain ⟨M, eM⟩ : ∃ M, M = T * 65536 + Y := ⟨_, rfl⟩
    rw [← eM] at hG2
    have q1 : (M : Int) / 65536 = (T : Int) := by omega
    have q2 := and_4095 T hT
    have q3 : bits BinOp.and IntKind.i64 ((T : Int) / 4096) 1 = ((T / 4096 % 2 : Nat) : Int) := by
      rw [show (T : Int) / 4096 = ((T / 4096 : Nat) : Int) from by omega]; exact and_one _ (by omega)
    have q5 : bits BinOp.and IntKind.i64 (M : Int) 65535 = (Y : Int) := by
      rw [and_65535 M (by omega), eM]; omega
    obtain ⟨A, eA⟩ : ∃ A, A = T % 4096 := ⟨_, rfl⟩
    obtain ⟨C, eC⟩ : ∃ A, A = T / 4096 % 2 := ⟨_, rfl⟩
    obtain ⟨D, eD⟩ : ∃ A, A = T / 8192 := ⟨_, rfl⟩
    have q4 : (T : Int) / 8192 = (D : Int) := by omega
    rw [← eA] at q2
    rw [← eC] at q3
    have a1 : ((C : Int) == 1) = false := by rw [beq_eq_false_iff_ne]; omega
    have a2 : ((A : Int) == 4095) = false := by rw [beq_eq_false_iff_ne]; omega
    have hM : M ≤ 4294967295 := by omega
    have k3 := slice_from s 18 (by omega) 18 rfl
    rw [hd] at k3
    have dz : data.size + 18 = s.size := by rw [← hd, ByteArray.size_extract]; omega
    have t2 : decide (2000 < (data.size : Int)) = false := decide_eq_false (by omega)
    have hv : fr dst src true (T % 4096 : Nat) (T / 8192 : Nat) (Y : Nat) data = fr dst src true A D Y data := by rw [eA, eD]
    have hvv : fr dst src true (at2 s 14 % 4096 : Nat) (at2 s 14 / 8192 : Nat) (at2 s 16 : Nat) data = fr dst src true A D Y data := by rw [← eT, ← eY]; exact hv
    have HV := Lib.hid hvv
    clear hk HKD hb1 hb2 eT eY eM eA eC eD h4 hd dz hv hvv hY2
    go_wp2_with ((with_reducible refine (hG2.to _).mono ?_); rintro e w4 ⟨rfl, g4⟩; obtain ⟨y4, u0, u1, u2, u3, u4, u5, u6, uf⟩ := R2.below g4; obtain ⟨y5, v0, v1, v2, v3, v4, v5, v6, vf⟩ := F2.below g4)
    go_region_held3 (fun _ => True) (trivial) (fail)
    have F9 : Box7 ((((((w4.setCell ⟨w1.heap.size, 2, none⟩ (.bool true)).setCell ⟨w1.heap.size, 4, none⟩ (.int .i64 (D : Int))).setCell ⟨w1.heap.size, 3, none⟩ (.int .i64 (A : Int))).setCell ⟨w1.heap.size, 5, none⟩ (.int .i64 (Y : Int))).setCell ⟨w1.heap.size, 6, none⟩ (.string data)).drew) w1.heap.size _ _ _ _ _ _ _ := (F2.below g4).tagged.drew
    have R9 : Box7 ((((((w4.setCell ⟨w1.heap.size, 2, none⟩ (.bool true)).setCell ⟨w1.heap.size, 4, none⟩ (.int .i64 (D : Int))).setCell ⟨w1.heap.size, 3, none⟩ (.int .i64 (A : Int))).setCell ⟨w1.heap.size, 5, none⟩ (.int .i64 (Y : Int))).setCell ⟨w1.heap.size, 6, none⟩ (.string data)).drew) w.heap.size _ _ _ _ _ _ _ := ((((((R2.below g4).put (by omega)).put (by omega)).put (by omega)).put (by omega)).put (by omega)).drew
    have b9 : Below w.heap.size w ((((((w4.setCell ⟨w1.heap.size, 2, none⟩ (.bool true)).setCell ⟨w1.heap.size, 4, none⟩ (.int .i64 (D : Int))).setCell ⟨w1.heap.size, 3, none⟩ (.int .i64 (A : Int))).setCell ⟨w1.heap.size, 5, none⟩ (.int .i64 (Y : Int))).setCell ⟨w1.heap.size, 6, none⟩ (.string data)).drew) := Below.drew ((((((bstep b2 g4).setCell (by simp; omega) _).setCell (by simp; omega) _).setCell (by simp; omega) _).setCell (by simp; omega) _).setCell (by simp; omega) _)
    generalize ((((((w4.setCell ⟨w1.heap.size, 2, none⟩ (.bool true)).setCell ⟨w1.heap.size, 4, none⟩ (.int .i64 (D : Int))).setCell ⟨w1.heap.size, 3, none⟩ (.int .i64 (A : Int))).setCell ⟨w1.heap.size, 5, none⟩ (.int .i64 (Y : Int))).setCell ⟨w1.heap.size, 6, none⟩ (.string data)).drew) = w9 at F9 R9 b9 ⊢
    obtain ⟨y8, s0, s1, s2, s3, s4, s5, s6, sf⟩ := F9
    obtain ⟨y9, z0, z1, z2, z3, z4, z5, z6, zf⟩ := R9
    clear u0 u1 u2 u3 u4 u5 u6 uf v0 v1 v2 v3 v4 v5 v6 vf
    go_wp2
    refine bodyPost_ret (v := .tuple #[fr dst src true A D Y data, .int .i64 0]) (by simp [fr, results, Try.results10, go_sem, z0, z1, z2, z3, z4, z5, z6]) rfl ⟨by rw [HV.out], by (repeat (with_reducible refine Below.setCell ?_ (by simp; try omega) _)); exact b9⟩

def DecE (s : ByteArray) (v : Value) (x : Int) : Prop :=
  ∀ w : World, Calls Try.prog 10 #[.string s] w fun e w' => e = .returned (.tuple #[v, .int .i64 x]) ∧ Below w.heap.size w w'
theorem DecE.to {s : ByteArray} {v : Value} {x : Int} (h : DecE s v x) (w : World) : Calls Try.prog 10 #[.string s] w fun e w' => e = .returned (.tuple #[v, .int .i64 x]) ∧ Below w.heap.size w w' := h w
end Go.Proofs.Ythpdfihmpoofaaa
