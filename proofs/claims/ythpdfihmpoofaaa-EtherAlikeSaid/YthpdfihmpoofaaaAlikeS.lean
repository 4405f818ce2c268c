/-
  What serves behind the region of 'EtherAlike': a byte stored into one of the four arrays, a callee, an array read as an address; and the groups' stations. Conditions: none.
-/
import Derived.Test.YthpdfihmpoofaaaAlikeI
import Derived.Test.YthpdfihmpoofaaaLaw03
namespace Go.Proofs.Ythpdfihmpoofaaa
open Go.RowKit

/-- an array's bytes read as an address -/
theorem BytesAt.addr {w : World} {g : Nat} {l : List UInt8} (h : BytesAt w g l) (n cap : Nat) (hn : l.length = n) :
    (convert 41 40 (.slice (some ⟨g, 0, none⟩) n cap)).run Try.prog w = .ok (.string ⟨l.toArray⟩) w := by
  have hx := run_convert_bytes_arg (P := Try.prog) w 41 5 Try.underlying41 Try.underlying5 g 0 n cap (l.map fun b : UInt8 => (b.toNat : Int)) (by simpa using hn)
    (fun i hi => by
      rw [Nat.zero_add, (h i (by omega)).1]
      simp [List.getD_eq_getElem?_getD, show i < l.length by omega]) 40 Try.underlying40
  rw [hx]
  congr 2
  apply ByteArray.ext
  apply Array.toList_inj.1
  rw [strOfNums_data, List.map_map]
  have e : ((fun n : Int => UInt8.ofNat n.toNat) ∘ fun b : UInt8 => (b.toNat : Int)) = id := by
    funext b; simp
  rw [e, List.map_id]

/-- the four arrays, in any world behind the region -/
def Four (n0 : Nat) (w : World) (g0 g1 g2 g3 : Nat) (A B C D : List UInt8) (W : World) : Prop :=
  Below n0 w W ∧ (n0 < g0 ∧ n0 < g1 ∧ n0 < g2 ∧ n0 < g3) ∧ (g0 < W.heap.size ∧ g1 < W.heap.size ∧ g2 < W.heap.size ∧ g3 < W.heap.size) ∧ BytesAt W g0 A ∧ BytesAt W g1 B ∧ BytesAt W g2 C ∧ BytesAt W g3 D ∧
    g0 ≠ g1 ∧ g0 ≠ g2 ∧ g0 ≠ g3 ∧ g1 ≠ g2 ∧ g1 ≠ g3 ∧ g2 ≠ g3
section
variable {n0 : Nat} {w W W' : World} {g0 g1 g2 g3 : Nat} {A B C D : List UInt8}
theorem Four.below (h : Four n0 w g0 g1 g2 g3 A B C D W) (g : Below W.heap.size W W') : Four n0 w g0 g1 g2 g3 A B C D W' := by
  obtain ⟨b, ⟨x0, x1, x2, x3⟩, ⟨y0, y1, y2, y3⟩, a0, a1, a2, a3, nn⟩ := h
  have z := g.size
  exact ⟨b.trans (g.mono (by omega)), ⟨x0, x1, x2, x3⟩, ⟨by omega, by omega, by omega, by omega⟩, a0.below g y0, a1.below g y1, a2.below g y2, a3.below g y3, nn⟩
theorem Four.set0 (h : Four n0 w g0 g1 g2 g3 A B C D W) (v : UInt8) : Four n0 w g0 g1 g2 g3 (A.set 0 v) B C D (W.setCell ⟨g0, 0, none⟩ (.int .u8 v.toNat)) := by
  obtain ⟨b, ⟨x0, x1, x2, x3⟩, y, a0, a1, a2, a3, n01, n02, n03, nn⟩ := h
  exact ⟨b.setCell (Nat.le_of_lt x0) _, ⟨x0, x1, x2, x3⟩, by simpa using y, a0.store 0 v, bytes_other a1 (Ne.symm n01), bytes_other a2 (Ne.symm n02), bytes_other a3 (Ne.symm n03), n01, n02, n03, nn⟩
theorem Four.set1 (h : Four n0 w g0 g1 g2 g3 A B C D W) (v : UInt8) : Four n0 w g0 g1 g2 g3 A (B.set 0 v) C D (W.setCell ⟨g1, 0, none⟩ (.int .u8 v.toNat)) := by
  obtain ⟨b, ⟨x0, x1, x2, x3⟩, y, a0, a1, a2, a3, n01, n02, n03, n12, n13, n23⟩ := h
  exact ⟨b.setCell (Nat.le_of_lt x1) _, ⟨x0, x1, x2, x3⟩, by simpa using y, bytes_other a0 n01, a1.store 0 v, bytes_other a2 (Ne.symm n12), bytes_other a3 (Ne.symm n13), n01, n02, n03, n12, n13, n23⟩
theorem Four.set2 (h : Four n0 w g0 g1 g2 g3 A B C D W) (v : UInt8) : Four n0 w g0 g1 g2 g3 A B (C.set 0 v) D (W.setCell ⟨g2, 0, none⟩ (.int .u8 v.toNat)) := by
  obtain ⟨b, ⟨x0, x1, x2, x3⟩, y, a0, a1, a2, a3, n01, n02, n03, n12, n13, n23⟩ := h
  exact ⟨b.setCell (Nat.le_of_lt x2) _, ⟨x0, x1, x2, x3⟩, by simpa using y, bytes_other a0 n02, bytes_other a1 n12, a2.store 0 v, bytes_other a3 (Ne.symm n23), n01, n02, n03, n12, n13, n23⟩
theorem Four.set3 (h : Four n0 w g0 g1 g2 g3 A B C D W) (v : UInt8) : Four n0 w g0 g1 g2 g3 A B C (D.set 0 v) (W.setCell ⟨g3, 0, none⟩ (.int .u8 v.toNat)) := by
  obtain ⟨b, ⟨x0, x1, x2, x3⟩, y, a0, a1, a2, a3, n01, n02, n03, n12, n13, n23⟩ := h
  exact ⟨b.setCell (Nat.le_of_lt x3) _, ⟨x0, x1, x2, x3⟩, by simpa using y, bytes_other a0 n03, bytes_other a1 n13, bytes_other a2 n23, a3.store 0 v, n01, n02, n03, n12, n13, n23⟩
end

/-- where groups of four bytes go -/
theorem group_of4 (a0 a1 a2 a3 : UInt8) (h : a0.toNat / 16 = 14) : GroupE ⟨[a0, a1, a2, a3].toArray⟩ ⟨[1, 0, 94, UInt8.ofNat (a1.toNat % 128), a2, a3].toArray⟩ 0 :=
  group_e4 _ _ rfl h rfl
/-- where groups of sixteen bytes go -/
theorem group_of16 (c0 c1 c2 c3 c4 c5 c6 c7 c8 c9 c10 c11 c12 c13 c14 c15 : UInt8) (h : c0.toNat = 255) :
    GroupE ⟨[c0, c1, c2, c3, c4, c5, c6, c7, c8, c9, c10, c11, c12, c13, c14, c15].toArray⟩ ⟨[51, 51, c12, c13, c14, c15].toArray⟩ 0 :=
  group_e16 _ _ rfl h rfl

theorem ofNat128 (a b : UInt8) : (UInt8.ofNat (a.toNat % 128) = UInt8.ofNat (b.toNat % 128)) ↔ a.toNat % 128 = b.toNat % 128 := by
  constructor
  · intro h
    have h2 := congrArg UInt8.toNat h
    simp only [UInt8.toNat_ofNat'] at h2
    omega
  · intro h
    rw [h]
/-- two groups of four bytes go to one station just if their lowest 23 bits are the same -/
theorem four_same (a1 a2 a3 b1 b2 b3 : UInt8) : (⟨[1, 0, 94, UInt8.ofNat (a1.toNat % 128), a2, a3].toArray⟩ : ByteArray) = ⟨[1, 0, 94, UInt8.ofNat (b1.toNat % 128), b2, b3].toArray⟩ ↔ (a1.toNat % 128 = b1.toNat % 128 ∧ a2 = b2 ∧ a3 = b3) := by
  constructor
  · intro h
    have h2 := congrArg (fun s : ByteArray => s.data.toList) h
    simp only [List.cons.injEq, true_and, and_true] at h2
    exact ⟨(ofNat128 a1 b1).1 h2.1, h2.2.1, h2.2.2⟩
  · rintro ⟨h1, rfl, rfl⟩
    rw [(ofNat128 a1 b1).2 h1]
theorem six_same (a b c d e f g h : UInt8) : (⟨[51, 51, a, b, c, d].toArray⟩ : ByteArray) = ⟨[51, 51, e, f, g, h].toArray⟩ ↔ (a = e ∧ b = f ∧ c = g ∧ d = h) := by
  constructor
  · intro q
    have h2 := congrArg (fun s : ByteArray => s.data.toList) q
    simpa using h2
  · rintro ⟨rfl, rfl, rfl, rfl⟩
    rfl
end Go.Proofs.Ythpdfihmpoofaaa
