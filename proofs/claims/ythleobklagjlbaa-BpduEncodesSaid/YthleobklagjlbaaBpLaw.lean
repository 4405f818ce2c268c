/-
  Plain laws on the tree's messages, with no program in sight: what was encoded is decoded, whatever stands behind it. Conditions: those of each law.
-/
import Derived.Test.YthleobklagjlbaaBpPl
namespace Go.Proofs.Ythleobklagjlbaa.Bp

theorem len1 : ∀ l : List UInt8, l.length = 1 → ∃ x0, l = [x0]
  | [x0], _ => ⟨x0, rfl⟩
theorem len2 : ∀ l : List UInt8, l.length = 2 → ∃ x0 x1, l = [x0, x1]
  | [x0, x1], _ => ⟨x0, x1, rfl⟩
theorem len4 : ∀ l : List UInt8, l.length = 4 → ∃ x0 x1 x2 x3, l = [x0, x1, x2, x3]
  | [x0, x1, x2, x3], _ => ⟨x0, x1, x2, x3, rfl⟩
theorem len8 : ∀ l : List UInt8, l.length = 8 → ∃ x0 x1 x2 x3 x4 x5 x6 x7, l = [x0, x1, x2, x3, x4, x5, x6, x7]
  | [x0, x1, x2, x3, x4, x5, x6, x7], _ => ⟨x0, x1, x2, x3, x4, x5, x6, x7, rfl⟩

/-- a message, byte by byte -/
theorem enc_out (r c b p a : Nat) (x y z : Bool) : ∃ F r0 r1 r2 r3 r4 r5 r6 r7 c0 c1 c2 c3 b0 b1 b2 b3 b4 b5 b6 b7 p0 p1 a0, Pl.be 1 (flags x y z) = [F] ∧ Pl.be 8 r = [r0, r1, r2, r3, r4, r5, r6, r7] ∧ Pl.be 4 c = [c0, c1, c2, c3] ∧ Pl.be 8 b = [b0, b1, b2, b3, b4, b5, b6, b7] ∧ Pl.be 2 p = [p0, p1] ∧ Pl.be 1 a = [a0] ∧
    enc r c b p a x y z = [66, 66, 3, 0, 0, 2, 2, F, r0, r1, r2, r3, r4, r5, r6, r7, c0, c1, c2, c3, b0, b1, b2, b3, b4, b5, b6, b7, p0, p1, a0, 0, 20, 0, 2, 0, 15, 0, 0] := by
  obtain ⟨F, hF⟩ := len1 (Pl.be 1 (flags x y z)) (Pl.be_length _ _)
  obtain ⟨r0, r1, r2, r3, r4, r5, r6, r7, hR⟩ := len8 (Pl.be 8 r) (Pl.be_length _ _)
  obtain ⟨c0, c1, c2, c3, hC⟩ := len4 (Pl.be 4 c) (Pl.be_length _ _)
  obtain ⟨b0, b1, b2, b3, b4, b5, b6, b7, hB⟩ := len8 (Pl.be 8 b) (Pl.be_length _ _)
  obtain ⟨p0, p1, hP⟩ := len2 (Pl.be 2 p) (Pl.be_length _ _)
  obtain ⟨a0, hA⟩ := len1 (Pl.be 1 a) (Pl.be_length _ _)
  exact ⟨F, r0, r1, r2, r3, r4, r5, r6, r7, c0, c1, c2, c3, b0, b1, b2, b3, b4, b5, b6, b7, p0, p1, a0, hF, hR, hC, hB, hP, hA, by rw [enc, hF, hR, hC, hB, hP, hA]; rfl⟩

/-- the flags' byte, with other bits turned -/
theorem flag_bit : ∀ (x y z : Bool), (flags x y z % 2 = 1 ↔ x = true) ∧ (flags x y z / 16 % 2 = 1 ↔ y = true) ∧ (flags x y z / 32 % 2 = 1 ↔ z = true) := by decide

/-- what is read of a message -/
structure Reads (l : List UInt8) (r c b p a : Nat) (x y z : Bool) : Prop where
  good : good l = true
  root : root l = r
  cost : cost l = c
  bridge : bridge l = b
  port : port l = p
  age : age l = a
  b0 : bit l 0 = x
  b4 : bit l 4 = y
  b5 : bit l 5 = z

/-- WHAT WAS ENCODED IS READ, whatever stands behind it, and in the places that are free -/
theorem reads_enc (r c b p a : Nat) (x y z : Bool) (hr : r < 18446744073709551616) (hc : c < 4294967296) (hb : b < 18446744073709551616) (hp : p < 65536) (ha : a < 256)
    (G : UInt8) (h0 : (G.toNat % 2 = 1 ↔ x = true)) (h4 : (G.toNat / 16 % 2 = 1 ↔ y = true)) (h5 : (G.toNat / 32 % 2 = 1 ↔ z = true)) (n0 n1 n2 n3 n4 n5 : UInt8) (t : List UInt8) :
    Reads ([66, 66, 3, 0, 0, 2, 2, G] ++ (Pl.be 8 r ++ Pl.be 4 c ++ Pl.be 8 b ++ Pl.be 2 p ++ Pl.be 1 a) ++ [0, n0, n1, n2, n3, n4, n5, 0] ++ t) r c b p a x y z := by
  obtain ⟨F, r0, r1, r2, r3, r4, r5, r6, r7, c0, c1, c2, c3, b0, b1, b2, b3, b4, b5, b6, b7, p0, p1, a0, hF, hR, hC, hB, hP, hA, -⟩ := enc_out r c b p a x y z
  rw [hR, hC, hB, hP, hA]
  refine ⟨rfl, ?_, ?_, ?_, ?_, ?_, ?_, ?_, ?_⟩
  · exact (congrArg Pl.num hR.symm).trans (Pl.num_be_of_lt (by simpa using hr))
  · exact (congrArg Pl.num hC.symm).trans (Pl.num_be_of_lt (by simpa using hc))
  · exact (congrArg Pl.num hB.symm).trans (Pl.num_be_of_lt (by simpa using hb))
  · exact (congrArg Pl.num hP.symm).trans (Pl.num_be_of_lt (by simpa using hp))
  · exact (congrArg Pl.num hA.symm).trans (Pl.num_be_of_lt (by simpa using ha))
  · show (G.toNat / 2 ^ 0 % 2 == 1) = x
    rw [Bool.eq_iff_iff, beq_iff_eq, Nat.pow_zero, Nat.div_one]; exact h0
  · show (G.toNat / 2 ^ 4 % 2 == 1) = y
    rw [Bool.eq_iff_iff, beq_iff_eq]; exact h4
  · show (G.toNat / 2 ^ 5 % 2 == 1) = z
    rw [Bool.eq_iff_iff, beq_iff_eq]; exact h5

theorem reads_back (r c b p a : Nat) (x y z : Bool) (hr : r < 18446744073709551616) (hc : c < 4294967296) (hb : b < 18446744073709551616) (hp : p < 65536) (ha : a < 256) (t : List UInt8) :
    Reads (enc r c b p a x y z ++ t) r c b p a x y z := by
  obtain ⟨F, r0, r1, r2, r3, r4, r5, r6, r7, c0, c1, c2, c3, b0, b1, b2, b3, b4, b5, b6, b7, p0, p1, a0, hF, hR, hC, hB, hP, hA, -⟩ := enc_out r c b p a x y z
  have hf : F.toNat = flags x y z := by
    have h := congrArg Pl.num hF
    rw [Pl.num_one] at h
    rw [← h, Pl.num_be_of_lt (by have := flags_lt x y z; omega)]
  obtain ⟨f0, f4, f5⟩ := flag_bit x y z
  have h := reads_enc r c b p a x y z hr hc hb hp ha F (hf ▸ f0) (hf ▸ f4) (hf ▸ f5) 20 0 2 0 15 0 t
  have e : enc r c b p a x y z ++ t = [66, 66, 3, 0, 0, 2, 2, F] ++ (Pl.be 8 r ++ Pl.be 4 c ++ Pl.be 8 b ++ Pl.be 2 p ++ Pl.be 1 a) ++ [0, 20, 0, 2, 0, 15, 0, 0] ++ t := by
    rw [enc, hF, hR, hC, hB, hP, hA]; rfl
  rw [e]; exact h

/-- what is read is of its kind -/
theorem kinds (l : List UInt8) : root l < 18446744073709551616 ∧ cost l < 4294967296 ∧ bridge l < 18446744073709551616 ∧ port l < 65536 ∧ age l < 256 := by
  have h : ∀ k m, Pl.num ((l.drop k).take m) < 256 ^ m := by
    intro k m
    have h := Pl.num_lt ((l.drop k).take m)
    exact Nat.lt_of_lt_of_le h (Nat.pow_le_pow_right (by decide) (by rw [List.length_take]; omega))
  exact ⟨h 8 8, h 16 4, h 20 8, h 28 2, h 30 1⟩
end Go.Proofs.Ythleobklagjlbaa.Bp
