/-
  What holds at every moment of the region in which 'EtherAlike' makes its four arrays, in whatever order. Conditions: none.
-/
import Derived.Test.YthpdfihmpoofaaaInv
import Derived.Test.YthpdfihmpoofaaaBa
namespace Go.Proofs.Ythpdfihmpoofaaa
open Go.RowKit

/-- the frame while the arrays are made -/
def alF (p : Value) (n0 : Nat) (z0 z1 z2 z3 u0 v0 u1 v1 u2 v2 u3 v3 : Value) : Act :=
  { tmps := #[p, .pointer (some ⟨n0, 0, none⟩), .bool false, z0, z1, z2, z3, undef, undef, undef, undef, undef, undef, undef, undef, undef, undef, u0, v0, u1, v1, u2, v2, u3, v3, undef, undef, undef, undef, undef, undef, undef, undef, undef, undef, undef, undef, undef, undef, undef, undef, undef, undef, undef, undef, undef, undef, undef, undef, undef, undef, undef, undef, undef, undef, undef, undef, undef, undef, undef, undef, undef, undef, undef, undef, undef, undef, undef, undef, undef, undef, undef, undef, undef, undef, undef, undef, undef, undef, undef, undef, undef, undef, undef, undef, undef, undef, undef, undef, undef, undef, undef, undef, undef, undef, undef, undef, undef, undef, undef, undef, undef, undef, undef, undef, undef, undef, undef, undef, undef, undef, undef, undef, undef, undef, undef, undef, undef, undef, undef, undef, undef, undef, undef, undef, undef, undef, undef, undef, undef, undef, undef, undef, undef, undef, undef, undef, undef, undef, undef, undef, undef], defers := [] }

/-- bytes as the cells of an array -/
def arrV (l : List UInt8) : Value := .agg (l.map fun b => Value.int .u8 b.toNat).toArray

/-- an array's variable: once it is made, it is one of the call's own blocks, and holds zeros, or what was stored -/
def AV (n0 : Nat) (W : World) (al st : Bool) (z : Value) (l0 l1 : List UInt8) : Prop :=
  (st = true → al = true) ∧ (al = true → ∃ g, z = .pointer (some ⟨g, 0, none⟩) ∧ n0 < g ∧ g < W.heap.size ∧ BytesAt W g (if st then l1 else l0))
/-- two variables lie apart -/
def AN (a b : Bool) (z y : Value) : Prop := a = true → b = true → z ≠ y
/-- the argument's box, and what was there before -/
def AG (n0 : Nat) (w : World) (ms : List UInt8) (W : World) : Prop := Below n0 w W ∧ n0 < W.heap.size ∧ ∀ j, j < 40 → W.cell? ⟨n0, j, none⟩ = some (.int .u8 (ms.getD j 0).toNat)

theorem bytes_alloc {W : World} {g : Nat} {l : List UInt8} (h : BytesAt W g l) (hg : g < W.heap.size) (o : Obj) : BytesAt (W.alloc o) g l := h.below (bbox1 W o) hg
theorem AV.alloc {n0 : Nat} {W : World} {al st : Bool} {z : Value} {l0 l1 : List UInt8} (h : AV n0 W al st z l0 l1) (o : Obj) : AV n0 (W.alloc o) al st z l0 l1 := ⟨h.1, fun ha => by
  obtain ⟨g, hz, h1, h2, h3⟩ := h.2 ha
  exact ⟨g, hz, h1, by rw [World.size_alloc]; omega, bytes_alloc h3 h2 o⟩⟩
theorem AN.fresh {n0 : Nat} {W : World} {al st : Bool} {z : Value} {l0 l1 : List UInt8} (h : AV n0 W al st z l0 l1) (b : Bool) : AN al b z (.pointer (some ⟨W.heap.size, 0, none⟩)) := fun ha _ e => by
  obtain ⟨g, rfl, _, h2, _⟩ := h.2 ha
  cases e
  exact absurd h2 (Nat.lt_irrefl _)
theorem AN.symm {a b : Bool} {z y : Value} (h : AN a b z y) : AN b a y z := fun hb ha e => h ha hb e.symm
theorem AG.alloc {n0 : Nat} {w W : World} {ms : List UInt8} (h : AG n0 w ms W) (o : Obj) : AG n0 w ms (W.alloc o) :=
  ⟨h.1.alloc (Nat.le_of_lt h.2.1) o, by rw [World.size_alloc]; exact Nat.lt_succ_of_lt h.2.1, fun j hj => ((bbox1 W o).cell (p := ⟨n0, j, none⟩) h.2.1).trans (h.2.2 j hj)⟩

theorem bytes_zeros (W : World) (k : Nat) (t : TypeId) : BytesAt (W.alloc (.cells (List.replicate k (Value.int .u8 0)).toArray t)) W.heap.size (List.replicate k 0) := by
  intro j hj
  rw [List.length_replicate] at hj
  constructor
  · simp [go_sem, hj]
  · simp [go_sem]

/-- one store into another block -/
theorem bytes_other {W : World} {g b o : Nat} {x : Value} {l : List UInt8} (h : BytesAt W g l) (hb : g ≠ b) : BytesAt (W.setCell ⟨b, o, none⟩ x) g l := fun j hj =>
  ⟨(World.cell?_setCell_other W _ _ _ (by intro e; cases e; exact hb rfl)).trans (h j hj).1, by rw [World.frozen?_setCell]; exact (h j hj).2⟩
/-- so many bytes stored, one after the other -/
def putAll (W : World) (g : Nat) : Nat → List UInt8 → World
  | _, [] => W
  | k, b :: r => putAll (W.setCell ⟨g, k, none⟩ (.int .u8 b.toNat)) g (k + 1) r
theorem putAll_size (g : Nat) : ∀ (l : List UInt8) (W : World) (k : Nat), (putAll W g k l).heap.size = W.heap.size
  | [], _, _ => rfl
  | b :: r, W, k => by rw [putAll, putAll_size g r]; simp
theorem putAll_other {g b : Nat} (hb : g ≠ b) : ∀ (l : List UInt8) (W : World) (k : Nat) (m : List UInt8), BytesAt W g m → BytesAt (putAll W b k l) g m
  | [], _, _, _, h => h
  | _ :: r, _, k, _, h => putAll_other hb r _ (k + 1) _ (bytes_other h hb)
theorem putAll_cell {g b : Nat} (hb : g ≠ b) (o : Nat) : ∀ (l : List UInt8) (W : World) (k : Nat), (putAll W b k l).cell? ⟨g, o, none⟩ = W.cell? ⟨g, o, none⟩
  | [], _, _ => rfl
  | _ :: r, _, k => (putAll_cell hb o r _ (k + 1)).trans (World.cell?_setCell_other _ _ _ _ (by intro e; cases e; exact hb rfl))
theorem putAll_below {n : Nat} {w : World} {b : Nat} (hb : n ≤ b) : ∀ (l : List UInt8) (W : World) (k : Nat), Below n w W → Below n w (putAll W b k l)
  | [], _, _, h => h
  | _ :: r, _, k, h => putAll_below hb r _ (k + 1) (h.setCell hb _)
theorem putAll_same (g : Nat) : ∀ (l : List UInt8) (W : World) (a m : List UInt8), BytesAt W g (a ++ m) → m.length = l.length → BytesAt (putAll W g a.length l) g (a ++ l)
  | [], W, a, m, h, hl => by
    have : m = [] := List.length_eq_zero_iff.1 (by simpa using hl)
    subst this
    exact h
  | b :: r, W, a, m, h, hl => by
    match m, hl with
    | c :: m', hl =>
      have h1 := h.store a.length b
      have e : (a ++ c :: m').set a.length b = (a ++ [b]) ++ m' := by
        rw [List.set_append_right _ _ (Nat.le_refl _), Nat.sub_self, List.append_assoc]; rfl
      rw [e] at h1
      have h2 := putAll_same g r _ (a ++ [b]) m' h1 (by simpa using hl)
      rw [List.length_append, List.append_assoc] at h2
      exact h2

theorem AV.other {n0 b : Nat} {W : World} {al st : Bool} {z : Value} {l0 l1 l : List UInt8} (h : AV n0 W al st z l0 l1) (hn : al = true → z ≠ .pointer (some ⟨b, 0, none⟩)) : AV n0 (putAll W b 0 l) al st z l0 l1 := ⟨h.1, fun ha => by
  obtain ⟨g, hz, h1, h2, h3⟩ := h.2 ha
  have hne : g ≠ b := fun e => hn ha (by rw [hz, e])
  exact ⟨g, hz, h1, by rw [putAll_size]; exact h2, putAll_other hne _ _ _ _ h3⟩⟩
theorem AV.fill {n0 b : Nat} {W : World} {l0 l1 : List UInt8} (h1 : n0 < b) (h2 : b < W.heap.size) (h3 : BytesAt W b l0) (hl : l0.length = l1.length) : AV n0 (putAll W b 0 l1) true true (.pointer (some ⟨b, 0, none⟩)) l0 l1 :=
  ⟨fun _ => rfl, fun _ => ⟨b, rfl, h1, by rw [putAll_size]; exact h2, putAll_same b l1 W [] l0 h3 hl⟩⟩
theorem AV.new {n0 k : Nat} {W : World} {st : Bool} {z : Value} {l1 : List UInt8} {t : TypeId} (h : AV n0 W false st z (List.replicate k 0) l1) (hn : n0 < W.heap.size) : AV n0 (W.alloc (.cells (List.replicate k (Value.int .u8 0)).toArray t)) true st (.pointer (some ⟨W.heap.size, 0, none⟩)) (List.replicate k 0) l1 := by
  have hs : st = false := by rcases st with _ | _; rfl; exact absurd (h.1 rfl) (by decide)
  subst hs
  exact ⟨fun _ => rfl, fun _ => ⟨_, rfl, hn, by simp, bytes_zeros W k t⟩⟩
theorem AG.put {n0 b : Nat} {w W : World} {ms l : List UInt8} (h : AG n0 w ms W) (hb : n0 < b) : AG n0 w ms (putAll W b 0 l) :=
  ⟨putAll_below (Nat.le_of_lt hb) _ _ _ h.1, by rw [putAll_size]; exact h.2.1, fun j hj => (putAll_cell (by omega) j l W 0).trans (h.2.2 j hj)⟩

theorem putAll4 (W : World) (g : Nat) (b0 b1 b2 b3 : UInt8) : ((((W.setCell ⟨g, 0, none⟩ (.int .u8 (b0.toNat : Nat))).setCell ⟨g, 1, none⟩ (.int .u8 (b1.toNat : Nat))).setCell ⟨g, 2, none⟩ (.int .u8 (b2.toNat : Nat))).setCell ⟨g, 3, none⟩ (.int .u8 (b3.toNat : Nat))) = putAll W g 0 [b0, b1, b2, b3] := rfl
theorem putAll16 (W : World) (g : Nat) (b0 b1 b2 b3 b4 b5 b6 b7 b8 b9 b10 b11 b12 b13 b14 b15 : UInt8) : ((((((((((((((((W.setCell ⟨g, 0, none⟩ (.int .u8 (b0.toNat : Nat))).setCell ⟨g, 1, none⟩ (.int .u8 (b1.toNat : Nat))).setCell ⟨g, 2, none⟩ (.int .u8 (b2.toNat : Nat))).setCell ⟨g, 3, none⟩ (.int .u8 (b3.toNat : Nat))).setCell ⟨g, 4, none⟩ (.int .u8 (b4.toNat : Nat))).setCell ⟨g, 5, none⟩ (.int .u8 (b5.toNat : Nat))).setCell ⟨g, 6, none⟩ (.int .u8 (b6.toNat : Nat))).setCell ⟨g, 7, none⟩ (.int .u8 (b7.toNat : Nat))).setCell ⟨g, 8, none⟩ (.int .u8 (b8.toNat : Nat))).setCell ⟨g, 9, none⟩ (.int .u8 (b9.toNat : Nat))).setCell ⟨g, 10, none⟩ (.int .u8 (b10.toNat : Nat))).setCell ⟨g, 11, none⟩ (.int .u8 (b11.toNat : Nat))).setCell ⟨g, 12, none⟩ (.int .u8 (b12.toNat : Nat))).setCell ⟨g, 13, none⟩ (.int .u8 (b13.toNat : Nat))).setCell ⟨g, 14, none⟩ (.int .u8 (b14.toNat : Nat))).setCell ⟨g, 15, none⟩ (.int .u8 (b15.toNat : Nat))) = putAll W g 0 [b0, b1, b2, b3, b4, b5, b6, b7, b8, b9, b10, b11, b12, b13, b14, b15] := rfl
end Go.Proofs.Ythpdfihmpoofaaa
