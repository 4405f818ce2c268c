/-
  What the program's ether.Encode computes. Conditions: those of each case.
-/
import Derived.Test.YthpdfihmpoofaaaEth
import Derived.Test.YthpdfihmpoofaaaEthPl
namespace Go.Proofs.Ythpdfihmpoofaaa
open Go.RowKit

set_option maxRecDepth 100000 in
set_option maxHeartbeats 1000000 in
theorem eput_any (B b : Nat) (l : List UInt8) (n : Int) (v : ByteArray) (w : World) (hP : Puts n 2 v 0) (h : Holding B b l w) (hlen : l.length + v.size ≤ 140737488355328) (hBw : B ≤ w.heap.size) :
    Calls Try.prog 22 #[.int .i64 n, .pointer (some ⟨b, 0, none⟩)] w fun e w' => e = .returned (.tuple #[]) ∧ Holding B b (l ++ v.data.toList) w' ∧ Below B w w' := by
  go_enter Try.func22, Try.ntmps22
  go_wp2_with (first | ((with_reducible refine (hP.to _).mono ?_); rintro e w1 ⟨rfl, g1⟩; have h1 := holding_below h g1; have hb1 := Nat.le_trans hBw g1.size) | ((with_reducible refine (holding_write B b l v _ h1 hlen hb1).mono ?_); rintro e w2 ⟨rfl, h2, g2⟩))
  go_end0
  exact ⟨rfl, h2, (g1.mono hBw).trans g2⟩

set_option maxRecDepth 100000 in
set_option maxHeartbeats 1000000 in
theorem ethenc_arg (dst src data : ByteArray) (tg : Bool) (vl pr ty : Int) (hz : data.size ≤ 140737488351232) (hnot : ¬ Good3 dst src tg vl pr ty data) (w : World) :
    Calls Try.prog 13 #[.agg #[.string dst, .string src, .bool tg, .int .i64 vl, .int .i64 pr, .int .i64 ty, .string data]] w fun e w' => e = .returned (.tuple #[.string ⟨#[]⟩, .int .i64 1]) ∧ Below w.heap.size w w' := by
  have hm := fun w => fine_is dst src data tg vl pr ty false hz (Iff.intro (fun h => absurd h (by decide)) (fun h => absurd h hnot)) w
  clear hnot
  go_enter Try.func13, Try.ntmps13
  go_wp2_with ((with_reducible refine (hm _).mono ?_); rintro e w1 ⟨rfl, g1⟩)
  go_ret2
  exact ⟨rfl, bstep (bbox1 _ _) g1⟩

theorem or_tci (pr vl : Nat) (hp : pr ≤ 7) (hv : vl ≤ 4094) : bits BinOp.or IntKind.i64 ((pr : Int) * 8192) (vl : Int) = (pr : Int) * 8192 + (vl : Int) := by
  rw [show ((pr : Int) * 8192) = ((pr * 8192 : Nat) : Int) from by omega, i64_or_nat _ _ (by omega) (by omega), nat_join 13 _ _ (by omega) (by omega)]
  omega

theorem below_of_le {n m : Nat} {a b : World} (h : Below m a b) (hn : n ≤ m) : Below n a b := h.mono hn

set_option maxRecDepth 100000 in
set_option maxHeartbeats 4000000 in
theorem ethenc_in (dst src data sd v1 v2 v3 : ByteArray) (tg : Bool) (vl pr ty : Nat) (hg : Good3 dst src tg vl pr ty data) (hsd : dst ++ src = sd) (z1 : v1.size = 2) (z2 : v2.size = 2) (z3 : v3.size = 2)
    (h1 : Puts 33024 2 v1 0) (h2 : Puts ((pr : Int) * 8192 + (vl : Int)) 2 v2 0) (h3 : Puts ty 2 v3 0) (w : World) :
    Calls Try.prog 13 #[.agg #[.string dst, .string src, .bool tg, .int .i64 vl, .int .i64 pr, .int .i64 ty, .string data]] w fun e w' =>
      e = .returned (.tuple #[.string ⟨(sd.data.toList ++ (if tg then v1.data.toList ++ v2.data.toList else []) ++ v3.data.toList ++ data.data.toList).toArray⟩, .int .i64 0]) ∧ Below w.heap.size w w' := by
  have hgq := hg
  obtain ⟨k1, k2, k3, k4, k5, k6, k7, k8, k9, k10⟩ := hgq
  have hm := fun w => fine_is dst src data tg vl pr ty true (by omega) (Iff.intro (fun _ => hg) (fun _ => rfl)) w
  have hor := or_tci pr vl (by omega) (by omega)
  have hpr : (pr : Int) ≤ 7 := k7
  have j1 := join2 dst src (by omega)
  rw [hsd] at j1
  have zs : sd.size = 12 := by rw [← hsd, size_add]; omega
  have ls := size_toList sd
  have l1 := size_toList v1
  have l2 := size_toList v2
  have l3 := size_toList v3
  have HS := Lib.hid (show sd.data.toList.length = 12 by omega)
  have H1 := Lib.hid (show v1.data.toList.length = 2 by omega)
  have H2 := Lib.hid (show v2.data.toList.length = 2 by omega)
  have H3 := Lib.hid (show v3.data.toList.length = 2 by omega)
  have HZ := Lib.hid (show sd.size = 12 ∧ v1.size = 2 ∧ v2.size = 2 ∧ v3.size = 2 ∧ data.size ≤ 2000 from ⟨zs, z1, z2, z3, k3⟩)
  clear hg hsd z1 z2 z3 zs ls l1 l2 l3 k1 k2 k3 k4 k5 k6 k8 k9 k10
  rcases tg with _ | _
  · go_enter Try.func13, Try.ntmps13
    go_wp2_with (first
      | ((with_reducible refine (hm _).mono ?_); rintro e w1 ⟨rfl, g1⟩; have F1 := (Box7.new _ _ _ _ _ _ _ _ _).below g1; obtain ⟨y1, c0, c1, c2, c3, c4, c5, c6, cf⟩ := F1)
      | ((with_reducible refine (holding_write w1.heap.size w1.heap.size [] sd _ (holding_new w1) (by have := HZ.out; simp; omega) (by simp)).mono ?_); rintro e w2 ⟨rfl, K2, g2⟩; have F2 := (((Box7.new _ _ _ _ _ _ _ _ _).below g1).below (bbox1 _ _)).under g2 y1; obtain ⟨y2, d0, d1, d2, d3, d4, d5, d6, df⟩ := F2)
      | ((with_reducible refine (eput_any w1.heap.size w1.heap.size _ _ v3 _ h3 K2 (by have := HZ.out; have := HS.out; simp; omega) (by have := g2.size; simp at this; omega)).mono ?_); rintro e w3 ⟨rfl, K3, g3⟩; have F3 := ((((Box7.new _ _ _ _ _ _ _ _ _).below g1).below (bbox1 _ _)).under g2 y1).under g3 y1; obtain ⟨y3, e0, e1, e2, e3, e4, e5, e6, ef⟩ := F3)
      | ((with_reducible refine (holding_write w1.heap.size w1.heap.size _ data _ K3 (by have := HZ.out; have := HS.out; have := H3.out; simp; omega) (by have := g2.size; have := g3.size; simp at *; omega)).mono ?_); rintro e w4 ⟨rfl, K4, g4⟩)
      | ((with_reducible refine (holding_string w1.heap.size w1.heap.size _ _ K4 (by have := g2.size; have := g3.size; have := g4.size; simp at *; omega)).mono ?_); rintro e w5 ⟨rfl, g5⟩))
    go_ret2
    refine ⟨by simp, ?_⟩
    have b1 := bstep (bbox1 _ _) g1
    exact ((((b1.alloc (by omega) _).trans (g2.mono (by omega))).trans (g3.mono (by omega))).trans (g4.mono (by omega))).trans (g5.mono (by omega))
  · go_enter Try.func13, Try.ntmps13
    go_wp2_with (first
      | ((with_reducible refine (hm _).mono ?_); rintro e w1 ⟨rfl, g1⟩; have F1 := (Box7.new _ _ _ _ _ _ _ _ _).below g1; obtain ⟨y1, c0, c1, c2, c3, c4, c5, c6, cf⟩ := F1)
      | ((with_reducible refine (holding_write w1.heap.size w1.heap.size [] sd _ (holding_new w1) (by have := HZ.out; simp; omega) (by simp)).mono ?_); rintro e w2 ⟨rfl, K2, g2⟩; have F2 := (((Box7.new _ _ _ _ _ _ _ _ _).below g1).below (bbox1 _ _)).under g2 y1; obtain ⟨y2, d0, d1, d2, d3, d4, d5, d6, df⟩ := F2)
      | ((with_reducible refine (eput_any w1.heap.size w1.heap.size _ _ v1 _ h1 K2 (by have := HZ.out; have := HS.out; simp; omega) (by have := g2.size; simp at this; omega)).mono ?_); rintro e w3 ⟨rfl, K3, g3⟩; have F3 := ((((Box7.new _ _ _ _ _ _ _ _ _).below g1).below (bbox1 _ _)).under g2 y1).under g3 y1; obtain ⟨y3, e0, e1, e2, e3, e4, e5, e6, ef⟩ := F3)
      | ((with_reducible refine (eput_any w1.heap.size w1.heap.size _ _ v2 _ h2 K3 (by have := HZ.out; have := HS.out; have := H1.out; simp; omega) (by have := g2.size; have := g3.size; simp at *; omega)).mono ?_); rintro e w4 ⟨rfl, K4, g4⟩; have F4 := (((((Box7.new _ _ _ _ _ _ _ _ _).below g1).below (bbox1 _ _)).under g2 y1).under g3 y1).under g4 y1; obtain ⟨y4, p0, p1, p2, p3, p4, p5, p6, pf⟩ := F4)
      | ((with_reducible refine (eput_any w1.heap.size w1.heap.size _ _ v3 _ h3 K4 (by have := HZ.out; have := HS.out; have := H1.out; have := H2.out; simp; omega) (by have := g2.size; have := g3.size; have := g4.size; simp at *; omega)).mono ?_); rintro e w5 ⟨rfl, K5, g5⟩; have F5 := ((((((Box7.new _ _ _ _ _ _ _ _ _).below g1).below (bbox1 _ _)).under g2 y1).under g3 y1).under g4 y1).under g5 y1; obtain ⟨y5, q0, q1, q2, q3, q4, q5, q6, qf⟩ := F5)
      | ((with_reducible refine (holding_write w1.heap.size w1.heap.size _ data _ K5 (by have := HZ.out; have := HS.out; have := H1.out; have := H2.out; have := H3.out; simp; omega) (by have := g2.size; have := g3.size; have := g4.size; have := g5.size; simp at *; omega)).mono ?_); rintro e w6 ⟨rfl, K6, g6⟩)
      | ((with_reducible refine (holding_string w1.heap.size w1.heap.size _ _ K6 (by have := g2.size; have := g3.size; have := g4.size; have := g5.size; have := g6.size; simp at *; omega)).mono ?_); rintro e w7 ⟨rfl, g7⟩))
    go_ret2
    refine ⟨by simp, ?_⟩
    have b1 := bstep (bbox1 _ _) g1
    exact ((((((b1.alloc (by omega) _).trans (g2.mono (by omega))).trans (g3.mono (by omega))).trans (g4.mono (by omega))).trans (g5.mono (by omega))).trans (g6.mono (by omega))).trans (g7.mono (by omega))

def EncE (dst src : ByteArray) (tg : Bool) (vl pr ty : Int) (data s : ByteArray) (x : Int) : Prop :=
  ∀ w : World, Calls Try.prog 13 #[.agg #[.string dst, .string src, .bool tg, .int .i64 vl, .int .i64 pr, .int .i64 ty, .string data]] w fun e w' => e = .returned (.tuple #[.string s, .int .i64 x]) ∧ Below w.heap.size w w'
theorem EncE.to {dst src : ByteArray} {tg : Bool} {vl pr ty : Int} {data s : ByteArray} {x : Int} (h : EncE dst src tg vl pr ty data s x) (w : World) :
  Calls Try.prog 13 #[.agg #[.string dst, .string src, .bool tg, .int .i64 vl, .int .i64 pr, .int .i64 ty, .string data]] w fun e w' => e = .returned (.tuple #[.string s, .int .i64 x]) ∧ Below w.heap.size w w' := h w
theorem ence_arg (dst src data : ByteArray) (tg : Bool) (vl pr ty : Int) (hz : data.size ≤ 140737488351232) (hnot : ¬ Good3 dst src tg vl pr ty data) : EncE dst src tg vl pr ty data ⟨#[]⟩ 1 := fun w => ethenc_arg dst src data tg vl pr ty hz hnot w
theorem ence_ok (dst src data : ByteArray) (tg : Bool) (vl pr ty : Nat) (hg : Good3 dst src tg vl pr ty data) : EncE dst src tg vl pr ty data ⟨(Et.enc dst.data.toList src.data.toList tg vl pr ty data.data.toList).toArray⟩ 0 := by
  have hgq := hg
  obtain ⟨k1, k2, k3, k4, k5, k6, k7, k8, k9, k10⟩ := hgq
  have p1 : Puts ((33024 : Nat) : Int) 2 ⟨(Pl.be 2 33024).toArray⟩ 0 := puts_good 33024 2 (by decide) (by decide) (by decide) (by decide)
  have p2 : Puts ((pr : Int) * 8192 + (vl : Int)) 2 ⟨(Pl.be 2 (pr * 8192 + vl)).toArray⟩ 0 := by
    have h := puts_good (pr * 8192 + vl) 2 (by omega) (by decide) (by decide) (by omega)
    rw [show ((pr * 8192 + vl : Nat) : Int) = (pr : Int) * 8192 + (vl : Int) from by omega] at h
    exact h
  have p3 : Puts ty 2 ⟨(Pl.be 2 ty).toArray⟩ 0 := puts_good _ 2 (by omega) (by decide) (by decide) (by omega)
  intro w
  have h := ethenc_in dst src data _ _ _ _ tg vl pr ty hg rfl (by rw [size_mk, Pl.be_length]) (by rw [size_mk, Pl.be_length]) (by rw [size_mk, Pl.be_length]) p1 p2 p3 w
  have e : (dst ++ src).data.toList ++ (if tg then (⟨(Pl.be 2 33024).toArray⟩ : ByteArray).data.toList ++ (⟨(Pl.be 2 (pr * 8192 + vl)).toArray⟩ : ByteArray).data.toList else []) ++ (⟨(Pl.be 2 ty).toArray⟩ : ByteArray).data.toList ++ data.data.toList = Et.enc dst.data.toList src.data.toList tg vl pr ty data.data.toList := by
    rw [data_add]; rfl
  rw [e] at h
  exact h
end Go.Proofs.Ythpdfihmpoofaaa
