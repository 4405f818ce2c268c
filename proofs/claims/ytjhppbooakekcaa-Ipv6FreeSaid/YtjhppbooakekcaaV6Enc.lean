/-
  What the program's ipv6.Encode computes. Conditions: those of each case.
-/
import Derived.Test.YtjhppbooakekcaaV6Dec
import Derived.Test.YtjhppbooakekcaaPut
namespace Go.Proofs.Ytjhppbooakekcaa
open Go.RowKit

theorem puts_two (n : Int) (m : Nat) (hn : n ≤ 9223372036854775807) : ∃ v c, Puts n m v c := ⟨_, _, put_any n m hn⟩

set_option maxRecDepth 100000 in
set_option maxHeartbeats 4000000 in
theorem v6enc_arg (h n : Int) (src dst data : ByteArray) (f : Bool) (hh : h ≤ 9223372036854775807) (hn : n ≤ 9223372036854775807) (z3 : data.size ≤ 140737488351232)
    (hnot : h < 0 ∨ 255 < h ∨ n < 1 ∨ 255 < n ∨ src.size ≠ 16 ∨ dst.size ≠ 16 ∨ 65527 < data.size) (w : World) :
    Calls Try.prog 13 #[.agg #[.int .i64 h, .int .i64 n, .string src, .string dst, .bool f, .string data]] w fun e w' => e = .returned (.tuple #[.string ⟨#[]⟩, .int .i64 1]) ∧ Below w.heap.size w w' := by
  obtain ⟨vh, ch, hP⟩ := puts_two h 1 hh
  have hc : decide (n < 1) = true ∨ (decide (n < 1) = false ∧ ((src.size : Int) != 16) = true) ∨ (decide (n < 1) = false ∧ ((src.size : Int) != 16) = false ∧ ((dst.size : Int) != 16) = true) ∨
      (decide (n < 1) = false ∧ ((src.size : Int) != 16) = false ∧ ((dst.size : Int) != 16) = false ∧ decide (65527 < (data.size : Int)) = true) ∨
      (decide (n < 1) = false ∧ ((src.size : Int) != 16) = false ∧ ((dst.size : Int) != 16) = false ∧ decide (65527 < (data.size : Int)) = false ∧ ∃ vn vh ch, Puts n 1 vn 1 ∧ Puts h 1 vh ch) ∨
      (decide (n < 1) = false ∧ ((src.size : Int) != 16) = false ∧ ((dst.size : Int) != 16) = false ∧ decide (65527 < (data.size : Int)) = false ∧ ∃ vn vh, Puts n 1 vn 0 ∧ Puts h 1 vh 1) := by
    by_cases c1 : n < 1
    · exact .inl (decide_eq_true c1)
    · have e1 := decide_eq_false c1
      by_cases c2 : src.size = 16
      · have e2 : ((src.size : Int) != 16) = false := by rw [c2]; rfl
        by_cases c3 : dst.size = 16
        · have e3 : ((dst.size : Int) != 16) = false := by rw [c3]; rfl
          by_cases c4 : 65527 < data.size
          · exact .inr (.inr (.inr (.inl ⟨e1, e2, e3, decide_eq_true (by omega)⟩)))
          · have e4 : decide (65527 < (data.size : Int)) = false := decide_eq_false (by omega)
            by_cases c5 : 255 < n
            · exact .inr (.inr (.inr (.inr (.inl ⟨e1, e2, e3, e4, _, _, _, puts_bad n 1 hn (by decide) (by decide) (by omega), hP⟩))))
            · obtain ⟨x, rfl⟩ := Int.eq_ofNat_of_zero_le (show 0 ≤ n by omega)
              exact .inr (.inr (.inr (.inr (.inr ⟨e1, e2, e3, e4, _, _, puts_good x 1 (by omega) (by decide) (by decide) (by omega), puts_bad h 1 hh (by decide) (by decide) (by omega)⟩))))
        · exact .inr (.inr (.inl ⟨e1, e2, bne_iff_ne.2 (by omega)⟩))
      · exact .inr (.inl ⟨e1, bne_iff_ne.2 (by omega)⟩)
  clear hnot hP
  rcases hc with d1 | ⟨d1, d2⟩ | ⟨d1, d2, d3⟩ | ⟨d1, d2, d3, d4⟩ | ⟨d1, d2, d3, d4, vn, vh, ch, hN, hH⟩ | ⟨d1, d2, d3, d4, vn, vh, hN, hH⟩
  all_goals
    go_enter Try.func13, Try.ntmps13
    first
      | (go_wp2_with fail
         go_ret2
         exact ⟨rfl, bbox1 _ _⟩)
      | (go_wp2_with (first | ((with_reducible refine (hN.to _).mono ?_); rintro e w1 ⟨rfl, g1⟩; obtain ⟨y1, c0, c1, c2, c3, c4, c5, cf⟩ := (Box6.new _ _ _ _ _ _ _ _).below g1) | ((with_reducible refine (hH.to _).mono ?_); rintro e w2 ⟨rfl, g2⟩))
         go_ret2
         exact ⟨rfl, bstep (bstep (bbox1 _ _) g1) g2⟩)

set_option maxRecDepth 100000 in
set_option maxHeartbeats 4000000 in
theorem v6enc_in (h n : Int) (src dst data xn xh body nx z res : ByteArray) (f : Bool) (z1 : src.size = 16) (z2 : dst.size = 16) (z3 : data.size ≤ 65527) (hn : 1 ≤ n) (zn : xn.size = 1) (zh : xh.size = 1) (zz : z.size = 2)
    (hN : Puts n 1 xn 0) (hH : Puts h 1 xh 0) (hZ : Puts body.size 2 z 0) (hb : (f = false ∧ body = data ∧ nx = xn) ∨ (f = true ∧ body = xn ++ ⟨#[0]⟩ ++ ⟨#[5, 2, 0, 0, 1, 0]⟩ ++ data ∧ nx = ⟨#[0]⟩))
    (hres : ⟨#[96, 0, 0, 0]⟩ ++ z ++ nx ++ xh ++ (src ++ dst) ++ body = res) (w : World) :
    Calls Try.prog 13 #[.agg #[.int .i64 h, .int .i64 n, .string src, .string dst, .bool f, .string data]] w fun e w' => e = .returned (.tuple #[.string res, .int .i64 0]) ∧ Below w.heap.size w w' := by
  have e1 : decide (n < 1) = false := decide_eq_false (by omega)
  have e2 : ((src.size : Int) != 16) = false := by rw [z1]; rfl
  have e3 : ((dst.size : Int) != 16) = false := by rw [z2]; rfl
  have e4 : decide (65527 < (data.size : Int)) = false := decide_eq_false (by omega)
  obtain ⟨y1, hy1⟩ : ∃ y : ByteArray, y = ⟨#[96, 0, 0, 0]⟩ ++ z := ⟨_, rfl⟩
  obtain ⟨y2, hy2⟩ : ∃ y, y = y1 ++ nx := ⟨_, rfl⟩
  obtain ⟨y3, hy3⟩ : ∃ y, y = y2 ++ xh := ⟨_, rfl⟩
  obtain ⟨sd, hsd⟩ : ∃ y, y = src ++ dst := ⟨_, rfl⟩
  obtain ⟨y4, hy4⟩ : ∃ y, y = y3 ++ sd := ⟨_, rfl⟩
  obtain ⟨u1, hu1⟩ : ∃ y : ByteArray, y = xn ++ ⟨#[0]⟩ := ⟨_, rfl⟩
  obtain ⟨u2, hu2⟩ : ∃ y : ByteArray, y = u1 ++ ⟨#[5, 2, 0, 0, 1, 0]⟩ := ⟨_, rfl⟩
  have znx : nx.size = 1 := by rcases hb with ⟨_, _, r⟩ | ⟨_, _, r⟩ <;> (rw [r]; first | exact zn | rfl)
  have s1 : y1.size = 6 := by rw [hy1, size_add, zz]; rfl
  have s2 : y2.size = 7 := by rw [hy2, size_add, s1, znx]
  have s3 : y3.size = 8 := by rw [hy3, size_add, s2, zh]
  have s5 : sd.size = 32 := by rw [hsd, size_add, z1, z2]
  have s4 : y4.size = 40 := by rw [hy4, size_add, s3, s5]
  have t1 : u1.size = 2 := by rw [hu1, size_add, zn]; rfl
  have t2 : u2.size = 8 := by rw [hu2, size_add, t1]; rfl
  have zb : body.size ≤ 65535 := by
    rcases hb with ⟨_, r, _⟩ | ⟨_, r, _⟩
    · rw [r]; omega
    · rw [r, ← hu1, ← hu2, size_add]; omega
  have j1 := join2 ⟨#[96, 0, 0, 0]⟩ z (by show 4 + z.size ≤ _; omega)
  have j2 := join2 y1 nx (by omega)
  have j3 := join2 y2 xh (by omega)
  have j4 := join2 src dst (by omega)
  have j5 := join2 y3 sd (by omega)
  have j6 := join2 y4 body (by omega)
  have j7 := join2 xn ⟨#[0]⟩ (by show xn.size + 1 ≤ _; omega)
  have j8 := join2 u1 ⟨#[5, 2, 0, 0, 1, 0]⟩ (by show u1.size + 6 ≤ _; omega)
  have j9 := join2 u2 data (by omega)
  rw [← hy1] at j1
  rw [← hy2] at j2
  rw [← hy3] at j3
  rw [← hsd] at j4
  rw [← hy4] at j5
  rw [hy4, hy3, hy2, hy1, hsd, hres] at j6
  rw [← hy1, ← hy2, ← hy3, ← hsd, ← hy4] at j6
  rw [← hu1] at j7
  rw [← hu2] at j8
  have hb2 : (f = false ∧ body = data ∧ nx = xn) ∨ (f = true ∧ u2 ++ data = body ∧ nx = ⟨#[0]⟩) := by
    rcases hb with r | ⟨r1, r2, r3⟩
    · exact .inl r
    · exact .inr ⟨r1, by rw [r2, hu2, hu1], r3⟩
  clear hres hb hy1 hy2 hy3 hy4 hsd hu1 hu2 s1 s2 s3 s4 s5 t1 t2 zb zn zh zz znx z1 z2 z3 hn
  rcases hb2 with ⟨rfl, rfl, rfl⟩ | ⟨rfl, r2, rfl⟩
  all_goals
    (try rw [r2] at j9)
    (try clear r2)
    go_enter Try.func13, Try.ntmps13
    go_wp2_with (first | ((with_reducible refine (hN.to _).mono ?_); rintro e w1 ⟨rfl, g1⟩; have B1 := (Box6.new _ _ _ _ _ _ _ _).below g1; obtain ⟨y1, c0, c1, c2, c3, c4, c5, cf⟩ := B1) | ((with_reducible refine (hH.to _).mono ?_); rintro e w2 ⟨rfl, g2⟩; have B2 := (((Box6.new _ _ _ _ _ _ _ _).below g1)).below g2; obtain ⟨y2, d0, d1, d2, d3, d4, d5, df⟩ := B2) | ((with_reducible refine (hZ.to _).mono ?_); rintro e w3 ⟨rfl, g3⟩; obtain ⟨y3, f0, f1, f2, f3, f4, f5, ff⟩ := ((((Box6.new _ _ _ _ _ _ _ _).below g1)).below g2).below g3))
    go_ret2
    exact ⟨rfl, bstep (bstep (bstep (bbox1 _ _) g1) g2) g3⟩
end Go.Proofs.Ytjhppbooakekcaa
