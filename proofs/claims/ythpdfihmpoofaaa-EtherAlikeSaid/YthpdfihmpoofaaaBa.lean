/-
  A row of bytes in memory that reads as a list: made out of a text, written byte by byte, read as a text again. Conditions: none.
-/
import Derived.Test.YthpdfihmpoofaaaBase
namespace Go.Proofs.Ythpdfihmpoofaaa
open Go.RowKit

/-- the cells from the block's head on are these bytes, and may be written -/
def BytesAt (w : World) (g : Nat) (l : List UInt8) : Prop :=
  ∀ j, j < l.length → w.cell? ⟨g, j, none⟩ = some (.int .u8 (l.getD j 0).toNat) ∧ w.frozen? ⟨g, j, none⟩ = false

theorem BytesAt.of_string (w : World) (s : ByteArray) : BytesAt (Lib.bytesWorld w 5 s) w.heap.size s.data.toList := by
  intro j hj
  have e := size_toList s
  refine ⟨Lib.bytesWorld_cell _ _ _ _ (by omega), ?_⟩
  have h := Lib.bytesWorld_at_new w 5 s
  have hz : s.size ≤ (Lib.bytesCells w 5 s).size := by
    have e2 : s.data.size = s.size := rfl
    simp only [Lib.bytesCells, Array.size_append, Array.size_map]
    omega
  simp only [World.frozen?, h]
  have : ¬ (Lib.bytesCells w 5 s).size ≤ j := by omega
  simp [this]

theorem BytesAt.store {w : World} {g : Nat} {l : List UInt8} (h : BytesAt w g l) (j : Nat) (b : UInt8) : BytesAt (w.setCell ⟨g, j, none⟩ (.int .u8 b.toNat)) g (l.set j b) := by
  intro i hi
  rw [List.length_set] at hi
  obtain ⟨h1, h2⟩ := h i hi
  refine ⟨?_, by rw [World.frozen?_setCell]; exact h2⟩
  by_cases hij : j = i
  · subst hij
    rw [World.cell?_setCell_same _ _ _ h1]
    simp [List.getD_eq_getElem?_getD, hi]
  · rw [World.cell?_setCell_other _ _ _ _ (by intro e; cases e; exact hij rfl), h1]
    simp [List.getD_eq_getElem?_getD, hij]

theorem BytesAt.string {w : World} {g : Nat} {l : List UInt8} (h : BytesAt w g l) (n cap : Nat) (hn : l.length = n) :
    (convert 41 9 (.slice (some ⟨g, 0, none⟩) n cap)).run Try.prog w = .ok (.string ⟨l.toArray⟩) w := by
  have hx := run_convert_bytes_arg (P := Try.prog) w 41 5 Try.underlying41 Try.underlying5 g 0 n cap (l.map fun b : UInt8 => (b.toNat : Int)) (by simpa using hn)
    (fun i hi => by
      rw [Nat.zero_add, (h i (by omega)).1]
      simp [List.getD_eq_getElem?_getD, show i < l.length by omega]) 9 Try.underlying9
  rw [hx]
  congr 2
  apply ByteArray.ext
  apply Array.toList_inj.1
  rw [strOfNums_data, List.map_map]
  have e : ((fun n : Int => UInt8.ofNat n.toNat) ∘ fun b : UInt8 => (b.toNat : Int)) = id := by
    funext b; simp
  rw [e, List.map_id]

theorem BytesAt.drewN {w : World} {g : Nat} {l : List UInt8} (h : BytesAt w g l) (n : Nat) : BytesAt (w.drewN n) g l := fun j hj => h j hj
theorem BytesAt.below {w w' : World} {g B : Nat} {l : List UInt8} (h : BytesAt w g l) (hb : Below B w w') (hg : g < B) : BytesAt w' g l := fun j hj =>
  ⟨(hb.cell (p := ⟨g, j, none⟩) hg).trans (h j hj).1, (hb.frozen (p := ⟨g, j, none⟩) hg).trans (h j hj).2⟩
theorem below_bytes (w : World) (s : ByteArray) : Below w.heap.size w (Lib.bytesWorld w 5 s) := ⟨rfl, rfl, rfl, by rw [Lib.bytesWorld_size]; omega, fun j hj => Lib.bytesWorld_at_old _ _ _ _ hj⟩
theorem conv_bytes (w : World) (s : ByteArray) : (convert 9 41 (.string s)).run Try.prog w = .ok (.slice (some ⟨w.heap.size, 0, none⟩) s.size (grownCap w s.size 0 5)) (Lib.bytesWorld w 5 s) :=
  Lib.run_convert_string_bytes (P := Try.prog) w 9 41 5 s Try.underlying9 Try.underlying41 Try.underlying5
end Go.Proofs.Ythpdfihmpoofaaa
