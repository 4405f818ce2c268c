/-
  The walk of 'BpduFree': it returns true and leaves what was there alone. Conditions: the numbers are of their kind.
-/
import Derived.Test.YthleobklagjlbaaBpShort
import Derived.Test.YthleobklagjlbaaOpBf
namespace Go.Proofs.Ythleobklagjlbaa
open Go.RowKit

set_option maxRecDepth 100000 in
set_option maxHeartbeats 1000000 in
theorem free_not (r c b p a d m0 m1 m2 m3 m4 m5 : Int) (x y z : Bool) (hE : Encs r c b p a x y z ⟨#[]⟩ 1) (w : World) :
    Calls Try.prog 8 #[.agg #[.int .u64 r, .int .i64 c, .int .u64 b, .int .i64 p, .int .i64 a, .bool x, .bool y, .bool z], .int .u8 d, .agg #[.int .u8 m0, .int .u8 m1, .int .u8 m2, .int .u8 m3, .int .u8 m4, .int .u8 m5]] w fun e w' => e = .returned (.bool true) ∧ Below w.heap.size w w' := by
  have hl := live06
  have HL := Lib.hid hl
  clear hl
  go_enter Try.func8, Try.ntmps8
  go_wp2_with (first | ((with_reducible refine (hE.to _).mono ?_); rintro e w3 ⟨rfl, g3⟩) | ((with_reducible refine (HL.out _).mono ?_); rintro e w4 ⟨rfl, g4⟩))
  go_ret
  exact ⟨rfl, bstep (bstep (ball (bbox1 _ _) _) g3) g4⟩

/-- so many numbers laid behind the age -/
def laid (l ms : List UInt8) : Nat → List UInt8
  | 0 => l
  | k + 1 => (laid l ms k).set (32 + k) (ms.getD k 0)
theorem laid_length (l ms : List UInt8) (k : Nat) : (laid l ms k).length = l.length := by
  induction k with
  | zero => rfl
  | succ k ih => rw [laid, List.length_set, ih]

/-- a text's bytes laid into memory, one of them written -/
theorem bytes_free (w3 : World) (s : ByteArray) (n j xb : Nat) (v : UInt8) (hn : s.size = n) (hj : j < n) (hxb : (s.data.toList.getD j 0).toNat = xb) :
    ∃ wb, (convert 9 36 (.string s)).run Try.prog w3 = .ok (.slice (some ⟨w3.heap.size, 0, none⟩) n (grownCap w3 n 0 5)) wb ∧ Below w3.heap.size w3 wb ∧ wb.heap.size = w3.heap.size + 1 ∧
      wb.cell? ⟨w3.heap.size, j, none⟩ = some (.int .u8 (xb : Int)) ∧ wb.frozen? ⟨w3.heap.size, j, none⟩ = false ∧ BytesAt (wb.setCell ⟨w3.heap.size, j, none⟩ (.int .u8 v.toNat)) w3.heap.size (s.data.toList.set j v) := by
  have el := size_toList s
  have h1 := conv_bytes w3 s
  have h4 := BytesAt.of_string w3 s
  rw [hn] at h1
  obtain ⟨h5, h6⟩ := h4 j (by omega)
  rw [hxb] at h5
  exact ⟨_, h1, below_bytes w3 s, Lib.bytesWorld_size w3 5 s, h5, h6, h4.store j v⟩

/-- the two boxes at the head read on as they were laid -/
theorem box86 {W w3 : World} {v0 v1 v2 v3 v4 v5 v6 v7 : Value} {t t2 : TypeId} (m0 m1 m2 m3 m4 m5 : UInt8)
    (g : Below ((W.alloc (.cells #[v0, v1, v2, v3, v4, v5, v6, v7] t)).alloc (.cells #[.int .u8 m0.toNat, .int .u8 m1.toNat, .int .u8 m2.toNat, .int .u8 m3.toNat, .int .u8 m4.toNat, .int .u8 m5.toNat] t2)).heap.size ((W.alloc (.cells #[v0, v1, v2, v3, v4, v5, v6, v7] t)).alloc (.cells #[.int .u8 m0.toNat, .int .u8 m1.toNat, .int .u8 m2.toNat, .int .u8 m3.toNat, .int .u8 m4.toNat, .int .u8 m5.toNat] t2)) w3) :
    W.heap.size + 1 < w3.heap.size ∧ w3.cell? ⟨W.heap.size, 0, none⟩ = some v0 ∧ w3.cell? ⟨W.heap.size, 1, none⟩ = some v1 ∧ w3.cell? ⟨W.heap.size, 2, none⟩ = some v2 ∧ w3.cell? ⟨W.heap.size, 3, none⟩ = some v3 ∧ w3.cell? ⟨W.heap.size, 4, none⟩ = some v4 ∧ w3.cell? ⟨W.heap.size, 5, none⟩ = some v5 ∧ w3.cell? ⟨W.heap.size, 6, none⟩ = some v6 ∧ w3.cell? ⟨W.heap.size, 7, none⟩ = some v7 ∧
      ∀ j, j < 6 → w3.cell? ⟨W.heap.size + 1, j, none⟩ = some (.int .u8 (([m0, m1, m2, m3, m4, m5].getD j 0).toNat : Int)) := by
  have hz : ((W.alloc (.cells #[v0, v1, v2, v3, v4, v5, v6, v7] t)).alloc (.cells #[.int .u8 m0.toNat, .int .u8 m1.toNat, .int .u8 m2.toNat, .int .u8 m3.toNat, .int .u8 m4.toNat, .int .u8 m5.toNat] t2)).heap.size = W.heap.size + 1 + 1 := by simp
  have hg := g.size
  refine ⟨by omega, ?_, ?_, ?_, ?_, ?_, ?_, ?_, ?_, ?_⟩
  all_goals first
    | (rw [g.cell (by simp; omega)]; simp [go_sem]; done)
    | (intro j hj
       have : j = 0 ∨ j = 1 ∨ j = 2 ∨ j = 3 ∨ j = 4 ∨ j = 5 := by omega
       rcases this with rfl | rfl | rfl | rfl | rfl | rfl <;> (rw [g.cell (by simp)]; simp [go_sem]))

set_option maxRecDepth 100000 in
set_option maxHeartbeats 1000000 in
theorem free_in (s u : ByteArray) (r c b p a : Int) (x1 y1 z1 : Bool) (d xb : Nat) (m0 m1 m2 m3 m4 m5 v : UInt8) (hE : Encs r c b p a x1 y1 z1 s 0) (hs : s.size = 39)
    (hxb : (s.data.toList.getD 7 0).toNat = xb) (hv : bits BinOp.xor IntKind.u8 (xb : Int) (bits BinOp.and IntKind.u8 (d : Int) 206) = (v.toNat : Int))
    (hu : u = ⟨(laid (s.data.toList.set 7 v) [m0, m1, m2, m3, m4, m5] 6).toArray⟩) (hU : Decs u r c b p a x1 y1 z1 0) (w : World) :
    Calls Try.prog 8 #[.agg #[.int .u64 r, .int .i64 c, .int .u64 b, .int .i64 p, .int .i64 a, .bool x1, .bool y1, .bool z1], .int .u8 d, .agg #[.int .u8 m0.toNat, .int .u8 m1.toNat, .int .u8 m2.toNat, .int .u8 m3.toNat, .int .u8 m4.toNat, .int .u8 m5.toNat]] w fun e w' => e = .returned (.bool true) ∧ Below w.heap.size w w' := by
  have hl := live06
  have HL := Lib.hid hl
  have HX := Lib.hid hxb
  have HU := Lib.hid hu
  have hel : s.data.toList.length = 39 := by rw [size_toList, hs]
  have HEL := Lib.hid hel
  clear hl hxb hu hel
  go_enter Try.func8, Try.ntmps8
  go_wp2_with (first | ((with_reducible refine (hE.to _).mono ?_); rintro e w3 ⟨rfl, g3⟩; obtain ⟨z3, c0, c1, c2, c3, c4, c5, c6, c7, hms⟩ := box86 m0 m1 m2 m3 m4 m5 g3; have HMS := Lib.hid hms; clear hms; obtain ⟨wb, k1, k2, k3, k4, k5, k6⟩ := bytes_free w3 s 39 7 xb v hs (by omega) HX.out; have K6 := Lib.hid k6; clear k6))
  have b3 : Below w.heap.size w w3 := bstep (ball (bbox1 _ _) _) g3
  have zb := k3
  clear g3 k1 k4 k5 k3
  go_loopw [10] (fun i wr => ∃ k : Nat, k ≤ 6 ∧ i = .int .i64 k ∧ Hid (BytesAt wr w3.heap.size (laid (s.data.toList.set 7 v) [m0, m1, m2, m3, m4, m5] k)) ∧ Below w3.heap.size w3 wr ∧ wr.heap.size = w3.heap.size + 1) (fun i _ => 6 - (intOf i).toNat)
  case atStart => exact ⟨0, by omega, rfl, K6.out, k2.setCell (Nat.le_refl _) _, by simpa using zb⟩
  case round =>
    obtain ⟨k, hk, rfl, hB, hbel, hsz⟩ := hrel
    have HS := Lib.hid hsz
    clear hsz zb
    by_cases hlt : k < 6
    · obtain ⟨mk, hmk⟩ : ∃ x, x = [m0, m1, m2, m3, m4, m5].getD k 0 := ⟨_, rfl⟩
      have q1 : wr.cell? ⟨w.heap.size + 1, k, none⟩ = some (.int .u8 (mk.toNat : Int)) := by rw [hmk]; exact (hbel.cell z3).trans (HMS.out k hlt)
      obtain ⟨q2, q3⟩ := hB.out (32 + k) (by rw [laid_length, List.length_set, HEL.out]; omega)
      have hst : BytesAt (wr.setCell ⟨w3.heap.size, 32 + k, none⟩ (.int .u8 mk.toNat)) w3.heap.size (laid (s.data.toList.set 7 v) [m0, m1, m2, m3, m4, m5] (k + 1)) := by rw [laid, ← hmk]; exact hB.out.store (32 + k) mk
      have HST := Lib.hid hst
      clear hst hmk
      go_wp2
      go_roundw
      case rel => exact ⟨k + 1, by omega, by go_num, HST, hbel.setCell (Nat.le_refl _) _, by simpa using HS.out⟩
      case measure => simp [intOf]; omega
    · obtain rfl : k = 6 := by omega
      have hcv := fun cap => BytesAt.string hB.out 39 cap (by rw [laid_length, List.length_set, HEL.out])
      rw [← HU.out] at hcv
      obtain ⟨y0, d0, d1, d2, d3, d4, d5, d6, d7⟩ := box8_on (hbel.mono (Nat.le_refl _)) (show w.heap.size < w3.heap.size by omega) c0 c1 c2 c3 c4 c5 c6 c7
      go_wp2_with (first | ((with_reducible refine (hU.to _).mono ?_); rintro e w5 ⟨rfl, g5⟩; obtain ⟨z5, e0, e1, e2, e3, e4, e5, e6, e7⟩ := box8_on g5 y0 d0 d1 d2 d3 d4 d5 d6 d7) | ((with_reducible refine (HL.out _).mono ?_); rintro e w6 ⟨rfl, g6⟩))
      go_ret
      exact ⟨rfl, bstep (ball (bstep (bstep b3 hbel) g5) _) g6⟩

theorem free_bit (f d k : Nat) (h : (206 : Nat).testBit k = false) : ((f ^^^ (d &&& 206)) / 2 ^ k % 2 = 1 ↔ f / 2 ^ k % 2 = 1) := by
  have h1 := Nat.testBit_eq_decide_div_mod_eq (x := f ^^^ (d &&& 206)) (i := k)
  have h2 := Nat.testBit_eq_decide_div_mod_eq (x := f) (i := k)
  rw [Nat.testBit_xor, Nat.testBit_and, h, Bool.and_false, Bool.xor_false, h2] at h1
  have h3 := decide_eq_decide.1 h1
  exact h3.symm

theorem free_list (r c b p a : Nat) (x y z : Bool) (v m0 m1 m2 m3 m4 m5 : UInt8) :
    laid ((Bp.enc r c b p a x y z).set 7 v) [m0, m1, m2, m3, m4, m5] 6 = [66, 66, 3, 0, 0, 2, 2, v] ++ (Pl.be 8 r ++ Pl.be 4 c ++ Pl.be 8 b ++ Pl.be 2 p ++ Pl.be 1 a) ++ [0, m0, m1, m2, m3, m4, m5, 0] ++ [] := by
  obtain ⟨F, r0, r1, r2, r3, r4, r5, r6, r7, c0, c1, c2, c3, b0, b1, b2, b3, b4, b5, b6, b7, p0, p1, a0, hF, hR, hC, hB, hP, hA, he⟩ := Bp.enc_out r c b p a x y z
  rw [he, hR, hC, hB, hP, hA]
  rfl

theorem free_walk (r c b p a d : Int) (x y z : Bool) (m0 m1 m2 m3 m4 m5 : UInt8) (hr0 : 0 ≤ r) (hr : r ≤ 18446744073709551615) (hc : c ≤ 9223372036854775807) (hb0 : 0 ≤ b) (hb : b ≤ 18446744073709551615) (hp : p ≤ 9223372036854775807) (ha : a ≤ 9223372036854775807)
    (hd0 : 0 ≤ d) (hd : d ≤ 255) (w : World) :
    Calls Try.prog 8 #[.agg #[.int .u64 r, .int .i64 c, .int .u64 b, .int .i64 p, .int .i64 a, .bool x, .bool y, .bool z], .int .u8 d, .agg #[.int .u8 m0.toNat, .int .u8 m1.toNat, .int .u8 m2.toNat, .int .u8 m3.toNat, .int .u8 m4.toNat, .int .u8 m5.toNat]] w fun e w' => e = .returned (.bool true) ∧ Below w.heap.size w w' := by
  by_cases h : c < 0 ∨ 4294967296 ≤ c ∨ p < 0 ∨ 65536 ≤ p ∨ a < 0 ∨ 256 ≤ a
  · exact free_not r c b p a d m0.toNat m1.toNat m2.toNat m3.toNat m4.toNat m5.toNat x y z (encs_arg x y z hc hp ha h) w
  · obtain ⟨r, rfl⟩ := Int.eq_ofNat_of_zero_le hr0
    obtain ⟨b, rfl⟩ := Int.eq_ofNat_of_zero_le hb0
    obtain ⟨c, rfl⟩ := Int.eq_ofNat_of_zero_le (show 0 ≤ c by omega)
    obtain ⟨p, rfl⟩ := Int.eq_ofNat_of_zero_le (show 0 ≤ p by omega)
    obtain ⟨a, rfl⟩ := Int.eq_ofNat_of_zero_le (show 0 ≤ a by omega)
    obtain ⟨d, rfl⟩ := Int.eq_ofNat_of_zero_le hd0
    have hs := enc_size r c b p a x y z
    have hf := Bp.flags_lt x y z
    have hE : Encs r c b p a x y z ⟨(Bp.enc r c b p a x y z).toArray⟩ 0 := encs_ok x y z (by omega) (by omega) (by omega)
    have hget : ((⟨(Bp.enc r c b p a x y z).toArray⟩ : ByteArray).data.toList.getD 7 0).toNat = Bp.flags x y z := by
      obtain ⟨F, r0, r1, r2, r3, r4, r5, r6, r7, c0, c1, c2, c3, b0, b1, b2, b3, b4, b5, b6, b7, p0, p1, a0, hF, hR, hC, hB, hP, hA, he⟩ := Bp.enc_out r c b p a x y z
      have h2 : (⟨(Bp.enc r c b p a x y z).toArray⟩ : ByteArray).data.toList.getD 7 0 = F := by rw [he]; rfl
      have h3 := congrArg Pl.num hF
      rw [Pl.num_one, Pl.num_be_of_lt (by omega)] at h3
      rw [h2, h3]
    have hx : Bp.flags x y z ^^^ (d &&& 206) < 256 := Nat.xor_lt_two_pow (n := 8) (by omega) (Nat.and_lt_two_pow _ (by decide))
    have hv : (UInt8.ofNat (Bp.flags x y z ^^^ (d &&& 206))).toNat = Bp.flags x y z ^^^ (d &&& 206) := by rw [UInt8.toNat_ofNat', Nat.mod_eq_of_lt hx]
    obtain ⟨f0, f4, f5⟩ := Bp.flag_bit x y z
    have g0 := free_bit (Bp.flags x y z) d 0 (by decide)
    have g4 := free_bit (Bp.flags x y z) d 4 (by decide)
    have g5 := free_bit (Bp.flags x y z) d 5 (by decide)
    refine free_in _ _ r c b p a x y z d _ m0 m1 m2 m3 m4 m5 (UInt8.ofNat (Bp.flags x y z ^^^ (d &&& 206))) hE hs hget ?_ rfl (decs_ok _ ?_ ?_ ?_) w
    · rw [hv, show (206 : Int) = ((206 : Nat) : Int) from rfl, u8_and_nat _ _ (by omega) (by decide), u8_xor_nat _ _ (by omega) (Nat.and_lt_two_pow (n := 8) _ (by decide))]
    · rw [size_mk, laid_length, List.length_set, size_toList, hs]; omega
    · rw [size_mk, laid_length, List.length_set, size_toList, hs]; omega
    · show Bp.Reads (laid ((Bp.enc r c b p a x y z).set 7 _) _ 6) r c b p a x y z
      rw [free_list]
      refine Bp.reads_enc r c b p a x y z (by omega) (by omega) (by omega) (by omega) (by omega) _ ?_ ?_ ?_ m0 m1 m2 m3 m4 m5 []
      · rw [hv]
        rw [Nat.pow_zero, Nat.div_one, Nat.div_one] at g0
        exact g0.trans f0
      · rw [hv]; exact g4.trans f4
      · rw [hv]; exact g5.trans f5
end Go.Proofs.Ythleobklagjlbaa
