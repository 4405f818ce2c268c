/-
  A box of seven cells, slices of a text, a text's bytes. Conditions: those of each law.
-/
import Derived.Test.YtoljmeemejmjfaaBa
import Derived.Deep.RegionHeld3
import Derived.Deep.DrawnRows
import Derived.Deep.DeepCutAuto
namespace Go.Proofs.Ytoljmeemejmjfaa
open Go.RowKit

/-- a box of seven cells -/
def Box7 (W : World) (b : Nat) (v0 v1 v2 v3 v4 v5 v6 : Value) : Prop :=
  b < W.heap.size ∧ W.cell? ⟨b, 0, none⟩ = some v0 ∧ W.cell? ⟨b, 1, none⟩ = some v1 ∧ W.cell? ⟨b, 2, none⟩ = some v2 ∧ W.cell? ⟨b, 3, none⟩ = some v3 ∧ W.cell? ⟨b, 4, none⟩ = some v4 ∧ W.cell? ⟨b, 5, none⟩ = some v5 ∧ W.cell? ⟨b, 6, none⟩ = some v6 ∧ ∀ o, W.frozen? ⟨b, o, none⟩ = false
theorem Box7.new (W : World) (v0 v1 v2 v3 v4 v5 v6 : Value) (t : TypeId) : Box7 (W.alloc (.cells #[v0, v1, v2, v3, v4, v5, v6] t)) W.heap.size v0 v1 v2 v3 v4 v5 v6 := by
  refine ⟨by simp, ?_, ?_, ?_, ?_, ?_, ?_, ?_, ?_⟩
  all_goals first | (intro o; simp [go_sem]; done) | simp [go_sem]
theorem Box7.under {W W' : World} {b n : Nat} {v0 v1 v2 v3 v4 v5 v6 : Value} (h : Box7 W b v0 v1 v2 v3 v4 v5 v6) (g : Below n W W') (hb : b < n) : Box7 W' b v0 v1 v2 v3 v4 v5 v6 := by
  obtain ⟨z, c0, c1, c2, c3, c4, c5, c6, cf⟩ := h
  exact ⟨Nat.lt_of_lt_of_le z g.size, (g.cell hb).trans c0, (g.cell hb).trans c1, (g.cell hb).trans c2, (g.cell hb).trans c3, (g.cell hb).trans c4, (g.cell hb).trans c5, (g.cell hb).trans c6, fun o => (g.frozen hb).trans (cf o)⟩
theorem ball {w a : World} (h : Below w.heap.size w a) (o : Obj) : Below w.heap.size w (a.alloc o) := h.alloc h.size o
theorem Box7.below {W W' : World} {b : Nat} {v0 v1 v2 v3 v4 v5 v6 : Value} (h : Box7 W b v0 v1 v2 v3 v4 v5 v6) (g : Below W.heap.size W W') : Box7 W' b v0 v1 v2 v3 v4 v5 v6 := h.under g h.1

theorem Box7.drew {W : World} {b : Nat} {v0 v1 v2 v3 v4 v5 v6 : Value} (h : Box7 W b v0 v1 v2 v3 v4 v5 v6) : Box7 W.drew b v0 v1 v2 v3 v4 v5 v6 := h
/-- a store elsewhere -/
theorem Box7.put {W : World} {b c o : Nat} {v0 v1 v2 v3 v4 v5 v6 x : Value} (h : Box7 W b v0 v1 v2 v3 v4 v5 v6) (hc : b ≠ c) : Box7 (W.setCell ⟨c, o, none⟩ x) b v0 v1 v2 v3 v4 v5 v6 := by
  obtain ⟨z, c0, c1, c2, c3, c4, c5, c6, cf⟩ := h
  have far : ∀ k, (W.setCell ⟨c, o, none⟩ x).cell? ⟨b, k, none⟩ = W.cell? ⟨b, k, none⟩ := fun k => World.cell?_setCell_other W _ _ _ (by intro e; cases e; exact hc rfl)
  exact ⟨by simpa using z, (far 0).trans c0, (far 1).trans c1, (far 2).trans c2, (far 3).trans c3, (far 4).trans c4, (far 5).trans c5, (far 6).trans c6, fun k => by rw [World.frozen?_setCell]; exact cf k⟩
theorem slice_from (s : ByteArray) (a : Nat) (h : a ≤ s.size) (x : Int) (hx : x = a) (w : World) : (Instr.slice 9 (.string s) (some (.int .i64 x)) none none).run Try.prog w = .ok (.string (s.extract a s.size)) w := by
  subst hx
  rw [run_slice_string_from_if (P := Try.prog) w 9 s .i64 (a : Int) Try.underlying9, if_pos ⟨by omega, by omega⟩]
  rfl
theorem slice_to (s : ByteArray) (a : Nat) (h : a ≤ s.size) (x : Int) (hx : x = a) (w : World) : (Instr.slice 9 (.string s) none (some (.int .i64 x)) none).run Try.prog w = .ok (.string (s.extract 0 a)) w := by
  subst hx
  rw [run_slice_string_to_if (P := Try.prog) w 9 s .i64 (a : Int) Try.underlying9, if_pos ⟨by omega, by omega⟩]
  rfl
theorem slice_mid (s : ByteArray) (a b : Nat) (h1 : a ≤ b) (h2 : b ≤ s.size) (x y : Int) (hx : x = a) (hy : y = b) (w : World) : (Instr.slice 9 (.string s) (some (.int .i64 x)) (some (.int .i64 y)) none).run Try.prog w = .ok (.string (s.extract a b)) w := by
  subst hx hy
  rw [run_slice_string_if (P := Try.prog) (w := w) 9 s .i64 .i64 (a : Int) (b : Int) Try.underlying9, if_pos ⟨by omega, by omega⟩, if_pos ⟨by omega, by omega⟩]
  rfl

theorem bt_at (s : ByteArray) (k : Nat) : PlainAid.bt s k = ((s.data.toList.getD k 0).toNat : Int) := by
  have e := size_toList s
  unfold PlainAid.bt
  by_cases h : k < s.size
  · rw [dif_pos h, List.getD_eq_getElem?_getD, List.getElem?_eq_getElem (by omega)]
    rfl
  · rw [dif_neg h, List.getD_eq_getElem?_getD, List.getElem?_eq_none (by omega)]
    rfl

theorem one_string2 (W : World) (b : UInt8) : (convert 36 9 (.slice (some ⟨W.heap.size, 0, none⟩) 1 1)).run Try.prog (W.alloc (.cells #[.int .u8 b.toNat] 5)).drew = .ok (.string ⟨#[b]⟩) (W.alloc (.cells #[.int .u8 b.toNat] 5)).drew := by
  have hb : BytesAt (W.alloc (.cells #[.int .u8 b.toNat] 5)) W.heap.size [b] := by
    intro j hj
    simp only [List.length_cons, List.length_nil] at hj
    obtain rfl : j = 0 := by omega
    constructor <;> simp [go_sem]
  exact (hb.drewN 1).string 1 1 rfl

theorem from_data (s : ByteArray) (a : Nat) : (s.extract a s.size).data.toList = s.data.toList.drop a := by
  rw [data_extract, List.take_of_length_le (by rw [List.length_drop, size_toList]; omega)]
end Go.Proofs.Ytoljmeemejmjfaa
