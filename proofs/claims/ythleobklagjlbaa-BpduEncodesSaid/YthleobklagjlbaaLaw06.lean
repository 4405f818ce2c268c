/-
  The tree's messages: what Decode and Encode answer, as facts for the laws' walks; and what the statements ask beside ('live'). Conditions: those of each.
-/
import Derived.Test.YthleobklagjlbaaBpDec
import Derived.Test.YthleobklagjlbaaBpEnc
import Derived.Test.YthleobklagjlbaaBpLaw
namespace Go.Proofs.Ythleobklagjlbaa
open Go.RowKit

def Decs (s : ByteArray) (r c b p a : Int) (x y z : Bool) (e0 : Int) : Prop :=
  ∀ w : World, Calls Try.prog 9 #[.string s] w fun e w' => e = .returned (.tuple #[.agg #[.int .u64 r, .int .i64 c, .int .u64 b, .int .i64 p, .int .i64 a, .bool x, .bool y, .bool z], .int .i64 e0]) ∧ Below w.heap.size w w'
theorem Decs.to {s : ByteArray} {r c b p a : Int} {x y z : Bool} {e0 : Int} (h : Decs s r c b p a x y z e0) (w : World) :
  Calls Try.prog 9 #[.string s] w fun e w' => e = .returned (.tuple #[.agg #[.int .u64 r, .int .i64 c, .int .u64 b, .int .i64 p, .int .i64 a, .bool x, .bool y, .bool z], .int .i64 e0]) ∧ Below w.heap.size w w' := h w
def Encs (r c b p a : Int) (x y z : Bool) (s : ByteArray) (e0 : Int) : Prop :=
  ∀ w : World, Calls Try.prog 12 #[.agg #[.int .u64 r, .int .i64 c, .int .u64 b, .int .i64 p, .int .i64 a, .bool x, .bool y, .bool z]] w fun e w' => e = .returned (.tuple #[.string s, .int .i64 e0]) ∧ Below w.heap.size w w'
theorem Encs.to {r c b p a : Int} {x y z : Bool} {s : ByteArray} {e0 : Int} (h : Encs r c b p a x y z s e0) (w : World) :
  Calls Try.prog 12 #[.agg #[.int .u64 r, .int .i64 c, .int .u64 b, .int .i64 p, .int .i64 a, .bool x, .bool y, .bool z]] w fun e w' => e = .returned (.tuple #[.string s, .int .i64 e0]) ∧ Below w.heap.size w w' := h w

theorem decs_cut (s : ByteArray) (h : s.size < 39) : Decs s 0 0 0 0 0 false false false 2 := fun w => bpdec_cut s h w
theorem decs_form (s : ByteArray) (h : 39 ≤ s.size) (hl : s.size ≤ 281474976710656) (hg : Bp.good s.data.toList = false) : Decs s 0 0 0 0 0 false false false 3 := fun w => bpdec_form s h hl hg w
theorem decs_ok (s : ByteArray) (h : 39 ≤ s.size) (hl : s.size ≤ 281474976710656) {r c b p a : Nat} {x y z : Bool} (hr : Bp.Reads s.data.toList r c b p a x y z) : Decs s r c b p a x y z 0 := by
  intro w
  have h1 := bpdec_ok s h hl hr.good w
  rw [hr.root, hr.cost, hr.bridge, hr.port, hr.age, hr.b0, hr.b4, hr.b5] at h1
  exact h1
theorem reads_self (l : List UInt8) (h : Bp.good l = true) : Bp.Reads l (Bp.root l) (Bp.cost l) (Bp.bridge l) (Bp.port l) (Bp.age l) (Bp.bit l 0) (Bp.bit l 4) (Bp.bit l 5) := ⟨h, rfl, rfl, rfl, rfl, rfl, rfl, rfl, rfl⟩
theorem encs_ok {r c b p a : Nat} (x y z : Bool) (hc : c < 4294967296) (hp : p < 65536) (ha : a < 256) : Encs r c b p a x y z ⟨(Bp.enc r c b p a x y z).toArray⟩ 0 := fun w => bpenc_ok r b c p a x y z hc hp ha w
theorem encs_arg {r c b p a : Int} (x y z : Bool) (hc : c ≤ 9223372036854775807) (hp : p ≤ 9223372036854775807) (ha : a ≤ 9223372036854775807) (h : c < 0 ∨ 4294967296 ≤ c ∨ p < 0 ∨ 65536 ≤ p ∨ a < 0 ∨ 256 ≤ a) : Encs r c b p a x y z ⟨#[]⟩ 1 :=
  fun w => bpenc_arg r b c p a x y z hc hp ha h w

theorem to_addr (w : World) : Calls Try.prog 20 #[] w fun e w' => e = .returned (.string ⟨#[1, 128, 194, 0, 0, 0]⟩) ∧ w = w' := by
  go_enter Try.func20, Try.ntmps20
  go_wp2
  go_ret
  exact ⟨rfl, rfl⟩

theorem ball {w a : World} (h : Below w.heap.size w a) (o : Obj) : Below w.heap.size w (a.alloc o) := h.alloc h.size o
/-- a box of eight cells reads on as it was laid -/
theorem box8 {W w3 : World} {v0 v1 v2 v3 v4 v5 v6 v7 : Value} {t : TypeId} (g : Below (W.alloc (.cells #[v0, v1, v2, v3, v4, v5, v6, v7] t)).heap.size (W.alloc (.cells #[v0, v1, v2, v3, v4, v5, v6, v7] t)) w3) :
    W.heap.size < w3.heap.size ∧ w3.cell? ⟨W.heap.size, 0, none⟩ = some v0 ∧ w3.cell? ⟨W.heap.size, 1, none⟩ = some v1 ∧ w3.cell? ⟨W.heap.size, 2, none⟩ = some v2 ∧ w3.cell? ⟨W.heap.size, 3, none⟩ = some v3 ∧ w3.cell? ⟨W.heap.size, 4, none⟩ = some v4 ∧ w3.cell? ⟨W.heap.size, 5, none⟩ = some v5 ∧ w3.cell? ⟨W.heap.size, 6, none⟩ = some v6 ∧ w3.cell? ⟨W.heap.size, 7, none⟩ = some v7 := by
  have hz : W.heap.size < (W.alloc (.cells #[v0, v1, v2, v3, v4, v5, v6, v7] t)).heap.size := by simp
  refine ⟨Nat.lt_of_lt_of_le hz g.size, ?_, ?_, ?_, ?_, ?_, ?_, ?_, ?_⟩
  all_goals (rw [g.cell hz]; simp [go_sem])

theorem box8_on {n : Nat} {w3 w5 : World} {v0 v1 v2 v3 v4 v5 v6 v7 : Value} (g : Below w3.heap.size w3 w5) (z : n < w3.heap.size) (c0 : w3.cell? ⟨n, 0, none⟩ = some v0) (c1 : w3.cell? ⟨n, 1, none⟩ = some v1) (c2 : w3.cell? ⟨n, 2, none⟩ = some v2) (c3 : w3.cell? ⟨n, 3, none⟩ = some v3) (c4 : w3.cell? ⟨n, 4, none⟩ = some v4) (c5 : w3.cell? ⟨n, 5, none⟩ = some v5) (c6 : w3.cell? ⟨n, 6, none⟩ = some v6) (c7 : w3.cell? ⟨n, 7, none⟩ = some v7) :
    n < w5.heap.size ∧ w5.cell? ⟨n, 0, none⟩ = some v0 ∧ w5.cell? ⟨n, 1, none⟩ = some v1 ∧ w5.cell? ⟨n, 2, none⟩ = some v2 ∧ w5.cell? ⟨n, 3, none⟩ = some v3 ∧ w5.cell? ⟨n, 4, none⟩ = some v4 ∧ w5.cell? ⟨n, 5, none⟩ = some v5 ∧ w5.cell? ⟨n, 6, none⟩ = some v6 ∧ w5.cell? ⟨n, 7, none⟩ = some v7 :=
  ⟨Nat.lt_of_lt_of_le z g.size, (g.cell z).trans c0, (g.cell z).trans c1, (g.cell z).trans c2, (g.cell z).trans c3, (g.cell z).trans c4, (g.cell z).trans c5, (g.cell z).trans c6, (g.cell z).trans c7⟩

/-- the empty message's bytes -/
def none39 : ByteArray := ⟨(Bp.enc 0 0 0 0 0 false false false).toArray⟩
theorem none39_size : none39.size = 39 := by decide +kernel

set_option maxRecDepth 100000 in
set_option maxHeartbeats 1000000 in
theorem live06 (w : World) : Calls Try.prog 11 #[] w fun e w' => e = .returned (.bool true) ∧ Below w.heap.size w w' := by
  obtain ⟨L, hL⟩ : ∃ L, L = none39 := ⟨_, rfl⟩
  have hbt := PlainAid.get_bt L
  have hE : Encs 0 0 0 0 0 false false false L 0 := by rw [hL]; exact encs_ok (r := 0) (c := 0) (b := 0) (p := 0) (a := 0) false false false (by decide) (by decide) (by decide)
  have hs : L.size = 39 := by rw [hL]; exact none39_size
  have h7 : (PlainAid.bt L 7 == 12) = true := by rw [hL]; decide +kernel
  have hD : Decs L 0 0 0 0 0 false false false 0 := by
    refine decs_ok (r := 0) (c := 0) (b := 0) (p := 0) (a := 0) L (by omega) (by omega) ?_
    have h := Bp.reads_back 0 0 0 0 0 false false false (by decide) (by decide) (by decide) (by decide) (by decide) []
    rw [List.append_nil] at h
    rw [hL]; exact h
  have hN : Decs ⟨#[]⟩ 0 0 0 0 0 false false false 2 := decs_cut ⟨#[]⟩ (by decide)
  have ht := to_addr
  clear hL
  go_enter Try.func11, Try.ntmps11
  go_wp2_with (first | ((with_reducible refine (hE.to _).mono ?_); rintro e w1 ⟨rfl, g1⟩) | ((with_reducible refine (hD.to _).mono ?_); rintro e w2 ⟨rfl, g2⟩) | ((with_reducible refine (hN.to _).mono ?_); rintro e w3 ⟨rfl, g3⟩; obtain ⟨z3, c0, c1, c2, c3, c4, c5, c6, c7⟩ := box8 g3) | ((with_reducible refine (ht _).mono ?_); rintro e w4 ⟨rfl, rfl⟩))
  go_ret
  exact ⟨rfl, ball (bstep (ball (bstep g1 g2) _) g3) _⟩
end Go.Proofs.Ythleobklagjlbaa
