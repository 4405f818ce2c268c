/-
  What the program's ipv6.Decode computes. Conditions: those of each case.
-/
import Derived.Test.YtjhppbooakekcaaOptions
import Derived.Deep.RegionHeld3
import Derived.Deep.DrawnRows
namespace Go.Proofs.Ytjhppbooakekcaa
open Go.RowKit

def zeroV6 : Value := .agg #[.int .i64 0, .int .i64 0, .string ⟨#[]⟩, .string ⟨#[]⟩, .bool false, .string ⟨#[]⟩]

set_option maxRecDepth 100000 in
theorem v6dec_cut (s : ByteArray) (hs : s.size < 40) (w : World) :
    Calls Try.prog 10 #[.string s] w fun e w' => e = .returned (.tuple #[zeroV6, .int .i64 2]) ∧ Below w.heap.size w w' := by
  go_enter Try.func10, Try.ntmps10
  go_wp2
  exact bodyPost_ret (v := .tuple #[zeroV6, .int .i64 2]) (by simp [zeroV6, results, Try.results10, go_sem]) rfl ⟨rfl, by go_grown⟩

/-- a box of six cells -/
def Box6 (W : World) (b : Nat) (v0 v1 v2 v3 v4 v5 : Value) : Prop :=
  b < W.heap.size ∧ W.cell? ⟨b, 0, none⟩ = some v0 ∧ W.cell? ⟨b, 1, none⟩ = some v1 ∧ W.cell? ⟨b, 2, none⟩ = some v2 ∧ W.cell? ⟨b, 3, none⟩ = some v3 ∧ W.cell? ⟨b, 4, none⟩ = some v4 ∧ W.cell? ⟨b, 5, none⟩ = some v5 ∧ ∀ o, W.frozen? ⟨b, o, none⟩ = false
theorem Box6.new (W : World) (v0 v1 v2 v3 v4 v5 : Value) (t : TypeId) : Box6 (W.alloc (.cells #[v0, v1, v2, v3, v4, v5] t)) W.heap.size v0 v1 v2 v3 v4 v5 := by
  refine ⟨by simp, ?_, ?_, ?_, ?_, ?_, ?_, ?_⟩
  all_goals first | (intro o; simp [go_sem]; done) | simp [go_sem]
theorem Box6.below {W W' : World} {b : Nat} {v0 v1 v2 v3 v4 v5 : Value} (h : Box6 W b v0 v1 v2 v3 v4 v5) (g : Below W.heap.size W W') : Box6 W' b v0 v1 v2 v3 v4 v5 := by
  obtain ⟨z, c0, c1, c2, c3, c4, c5, cf⟩ := h
  exact ⟨Nat.lt_of_lt_of_le z g.size, (g.cell z).trans c0, (g.cell z).trans c1, (g.cell z).trans c2, (g.cell z).trans c3, (g.cell z).trans c4, (g.cell z).trans c5, fun o => (g.frozen z).trans (cf o)⟩
/-- a store elsewhere -/
theorem Box6.put {W : World} {b c o : Nat} {v0 v1 v2 v3 v4 v5 x : Value} (h : Box6 W b v0 v1 v2 v3 v4 v5) (hc : b ≠ c) : Box6 (W.setCell ⟨c, o, none⟩ x) b v0 v1 v2 v3 v4 v5 := by
  obtain ⟨z, c0, c1, c2, c3, c4, c5, cf⟩ := h
  have far : ∀ k, (W.setCell ⟨c, o, none⟩ x).cell? ⟨b, k, none⟩ = W.cell? ⟨b, k, none⟩ := fun k => World.cell?_setCell_other W _ _ _ (by intro e; cases e; exact hc rfl)
  exact ⟨by simpa using z, (far 0).trans c0, (far 1).trans c1, (far 2).trans c2, (far 3).trans c3, (far 4).trans c4, (far 5).trans c5, fun k => by rw [World.frozen?_setCell]; exact cf k⟩
/-- a store into cell 1, into cell 4 -/
theorem Box6.set1 {W : World} {b : Nat} {v0 v1 v2 v3 v4 v5 x : Value} (h : Box6 W b v0 v1 v2 v3 v4 v5) : Box6 (W.setCell ⟨b, 1, none⟩ x) b v0 x v2 v3 v4 v5 := by
  obtain ⟨z, c0, c1, c2, c3, c4, c5, cf⟩ := h
  have far : ∀ k, k ≠ 1 → (W.setCell ⟨b, 1, none⟩ x).cell? ⟨b, k, none⟩ = W.cell? ⟨b, k, none⟩ := fun k hk => World.cell?_setCell_other W _ _ _ (by intro e; cases e; exact hk rfl)
  exact ⟨by simpa using z, (far 0 (by decide)).trans c0, World.cell?_setCell_same W _ _ c1, (far 2 (by decide)).trans c2, (far 3 (by decide)).trans c3, (far 4 (by decide)).trans c4, (far 5 (by decide)).trans c5, fun k => by rw [World.frozen?_setCell]; exact cf k⟩

set_option maxRecDepth 100000 in
set_option maxHeartbeats 1000000 in
theorem v6dec_form (s : ByteArray) (n : Nat) (hs : 40 ≤ s.size) (hl : s.size ≤ 281474976710656) (hG : Gets s 4 2 n 0) (h0 : (PlainAid.bt s 0 / 16 != 6) = true) (w : World) :
    Calls Try.prog 10 #[.string s] w fun e w' => e = .returned (.tuple #[zeroV6, .int .i64 3]) ∧ Below w.heap.size w w' := by
  have hbt := PlainAid.get_bt s
  go_enter Try.func10, Try.ntmps10
  go_wp2_with ((with_reducible refine (hG.to _).mono ?_); rintro e w1 ⟨rfl, g1⟩; obtain ⟨z, c0, c1, c2, c3, c4, c5, cf⟩ := (Box6.new _ _ _ _ _ _ _ _).below g1)
  exact bodyPost_ret (v := .tuple #[zeroV6, .int .i64 3]) (by simp [zeroV6, results, Try.results10, go_sem, c0, c1, c2, c3, c4, c5]) rfl ⟨rfl, by (repeat (refine Below.setCell ?_ (by simp) _)); exact bstep (bbox1 _ _) g1⟩

set_option maxRecDepth 100000 in
set_option maxHeartbeats 1000000 in
theorem v6dec_short (s : ByteArray) (n : Nat) (hs : 40 ≤ s.size) (hl : s.size ≤ 281474976710656) (hG : Gets s 4 2 n 0) (h0 : (PlainAid.bt s 0 / 16 != 6) = false) (hn : s.size < 40 + n) (w : World) :
    Calls Try.prog 10 #[.string s] w fun e w' => e = .returned (.tuple #[zeroV6, .int .i64 2]) ∧ Below w.heap.size w w' := by
  have hbt := PlainAid.get_bt s
  have d1 : decide ((s.size : Int) - 40 < (n : Int)) = true := decide_eq_true (by omega)
  go_enter Try.func10, Try.ntmps10
  go_wp2_with ((with_reducible refine (hG.to _).mono ?_); rintro e w1 ⟨rfl, g1⟩; obtain ⟨z, c0, c1, c2, c3, c4, c5, cf⟩ := (Box6.new _ _ _ _ _ _ _ _).below g1)
  exact bodyPost_ret (v := .tuple #[zeroV6, .int .i64 2]) (by simp [zeroV6, results, Try.results10, go_sem, c0, c1, c2, c3, c4, c5]) rfl ⟨rfl, by (repeat (refine Below.setCell ?_ (by simp) _)); exact bstep (bbox1 _ _) g1⟩

end Go.Proofs.Ytjhppbooakekcaa
