/-
  A value of type siphonlaw03.Groups that comes in, opened: its forty bytes. Conditions: none.
-/
import Derived.Test.YthpdfihmpoofaaaOpArr
namespace Go.Proofs.Ythpdfihmpoofaaa
open Go.ChangeShapes Go.WideShapes Go.ChangeAt Go.RowKit
section
variable {H : Type} {enc : TypeId × Value → H} {w : World} {base : Nat} {spare : Nat → Bool} {held : Bool}
theorem groups_cells {cs : List Value} {a b c d : List UInt8} (hsz : cs.length = 40)
    (e0 : (cs.drop 0).take 4 = a.map fun b => Value.int .u8 (b.toNat : Int)) (e1 : (cs.drop 4).take 4 = b.map fun b => Value.int .u8 (b.toNat : Int)) (e2 : (cs.drop 8).take 16 = c.map fun b => Value.int .u8 (b.toNat : Int)) (e3 : (cs.drop 24).take 16 = d.map fun b => Value.int .u8 (b.toNat : Int)) :
    cs = (a ++ b ++ c ++ d).map fun b => Value.int .u8 (b.toNat : Int) := by
  simp only [List.map_append]
  rw [← e0, ← e1, ← e2, ← e3]
  have h4 : cs.drop 24 = (cs.drop 24).take 16 := (List.take_of_length_le (by simp [hsz])).symm
  rw [← h4]
  have s1 : cs.drop 8 = (cs.drop 8).take 16 ++ cs.drop 24 := by
    have := (List.take_append_drop 16 (cs.drop 8)).symm
    rwa [List.drop_drop] at this
  have s2 : cs.drop 4 = (cs.drop 4).take 4 ++ cs.drop 8 := by
    have := (List.take_append_drop 4 (cs.drop 4)).symm
    rwa [List.drop_drop] at this
  have s3 : cs = (cs.drop 0).take 4 ++ cs.drop 4 := by
    rw [List.drop_zero]
    exact (List.take_append_drop 4 cs).symm
  rw [List.append_assoc, ← s1, List.append_assoc, ← s2, ← s3]

theorem open_groups {r : Reach} {b0 : Nat} {v : Value} {d : DataW H} {q : List MemPlace} (hv : Value.okWide Try.prog w r b0 37 v) (h : DataW.Trod enc Try.prog w base spare held 37 v d q) :
    ∃ m0 m1 m2 m3 m4 m5 m6 m7 m8 m9 m10 m11 m12 m13 m14 m15 m16 m17 m18 m19 m20 m21 m22 m23 m24 m25 m26 m27 m28 m29 m30 m31 m32 m33 m34 m35 m36 m37 m38 m39 : UInt8, v = .agg #[.int .u8 m0.toNat, .int .u8 m1.toNat, .int .u8 m2.toNat, .int .u8 m3.toNat, .int .u8 m4.toNat, .int .u8 m5.toNat, .int .u8 m6.toNat, .int .u8 m7.toNat, .int .u8 m8.toNat, .int .u8 m9.toNat, .int .u8 m10.toNat, .int .u8 m11.toNat, .int .u8 m12.toNat, .int .u8 m13.toNat, .int .u8 m14.toNat, .int .u8 m15.toNat, .int .u8 m16.toNat, .int .u8 m17.toNat, .int .u8 m18.toNat, .int .u8 m19.toNat, .int .u8 m20.toNat, .int .u8 m21.toNat, .int .u8 m22.toNat, .int .u8 m23.toNat, .int .u8 m24.toNat, .int .u8 m25.toNat, .int .u8 m26.toNat, .int .u8 m27.toNat, .int .u8 m28.toNat, .int .u8 m29.toNat, .int .u8 m30.toNat, .int .u8 m31.toNat, .int .u8 m32.toNat, .int .u8 m33.toNat, .int .u8 m34.toNat, .int .u8 m35.toNat, .int .u8 m36.toNat, .int .u8 m37.toNat, .int .u8 m38.toNat, .int .u8 m39.toNat] := by
  obtain ⟨cs, rfl, hsz⟩ := okWide_struct Try.underlying37 hv
  obtain ⟨fuel, hf⟩ := h
  obtain ⟨xs, n, _, _, hl, hlen, hg⟩ := DataW.trod_struct Try.underlying37 hf
  have e4 : Try.prog.cellsOf 34 = 4 := by kernel_rfl
  have e16 : Try.prog.cellsOf 35 = 16 := by kernel_rfl
  have eg : Try.prog.cellsOf 37 = 40 := by kernel_rfl
  have hl : cs.toList.length = 40 := hl.trans eg
  match xs, hlen with
  | [y0, y1, y2, y3], _ =>
    have g0 : DataW.trod enc Try.prog w base spare held n 34 ((cs.toList.drop 0).take 4) = some y0 := by rw [← e4]; exact hg 0 _ rfl
    have g1 : DataW.trod enc Try.prog w base spare held n 34 ((cs.toList.drop 4).take 4) = some y1 := by
      have this : DataW.trod enc Try.prog w base spare held n 34 ((cs.toList.drop 4).take (Try.prog.cellsOf 34)) = some y1 := hg 1 _ rfl
      rw [e4] at this
      exact this
    have g2 : DataW.trod enc Try.prog w base spare held n 35 ((cs.toList.drop 8).take 16) = some y2 := by
      have this : DataW.trod enc Try.prog w base spare held n 35 ((cs.toList.drop 8).take (Try.prog.cellsOf 35)) = some y2 := hg 2 _ rfl
      rw [e16] at this
      exact this
    have g3 : DataW.trod enc Try.prog w base spare held n 35 ((cs.toList.drop 24).take 16) = some y3 := by
      have this : DataW.trod enc Try.prog w base spare held n 35 ((cs.toList.drop 24).take (Try.prog.cellsOf 35)) = some y3 := hg 3 _ rfl
      rw [e16] at this
      exact this
    obtain ⟨a, l0, r0⟩ := trod_bytes Try.underlying34 Try.underlying5 (by kernel_rfl) e4 g0
    obtain ⟨b, l1, r1⟩ := trod_bytes Try.underlying34 Try.underlying5 (by kernel_rfl) e4 g1
    obtain ⟨c, l2, r2⟩ := trod_bytes Try.underlying35 Try.underlying5 (by kernel_rfl) e16 g2
    obtain ⟨d, l3, r3⟩ := trod_bytes Try.underlying35 Try.underlying5 (by kernel_rfl) e16 g3
    have h2 := groups_cells hl r0 r1 r2 r3
    match a, l0 with
    | [m0, m1, m2, m3], _ =>
      match b, l1 with
      | [m4, m5, m6, m7], _ =>
        match c, l2 with
        | [m8, m9, m10, m11, m12, m13, m14, m15, m16, m17, m18, m19, m20, m21, m22, m23], _ =>
          match d, l3 with
          | [m24, m25, m26, m27, m28, m29, m30, m31, m32, m33, m34, m35, m36, m37, m38, m39], _ =>
            exact ⟨m0, m1, m2, m3, m4, m5, m6, m7, m8, m9, m10, m11, m12, m13, m14, m15, m16, m17, m18, m19, m20, m21, m22, m23, m24, m25, m26, m27, m28, m29, m30, m31, m32, m33, m34, m35, m36, m37, m38, m39, congrArg (fun l : List Value => Value.agg l.toArray) h2⟩
end
end Go.Proofs.Ythpdfihmpoofaaa
