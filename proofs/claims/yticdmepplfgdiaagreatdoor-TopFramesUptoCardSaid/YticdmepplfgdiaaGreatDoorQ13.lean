/-
  What the program's bpdu.Encode computes. Conditions: the numbers are of their kind.
-/
import Derived.Deep.RegionWith
import Derived.Test.YticdmepplfgdiaaGreatDoorQ03
import Derived.Test.YticdmepplfgdiaaGreatDoorQ06
import Derived.Test.YticdmepplfgdiaaGreatDoorQ00
set_option linter.unusedVariables false
set_option linter.unusedSimpArgs false
namespace Go.Proofs.YticdmepplfgdiaaGreatDoor
open Go.RowKit
/-- a contract as a fact that the walk does not look into -/
def Eights (n : Int) (v : ByteArray) : Prop :=
  ∀ w : World, Calls Tryz.prog 132 #[.int .u64 n] w fun e w' => e = .returned (.string v) ∧ Below w.heap.size w w'
theorem Eights.to {n : Int} {v : ByteArray} (h : Eights n v) (w : World) : Calls Tryz.prog 132 #[.int .u64 n] w fun e w' => e = .returned (.string v) ∧ Below w.heap.size w w' := h w
/-- the three entries -/
def es3 (x y z : Bool) : Array MapEntry := #[{ key := .int .i64 0, val := .bool x, born := 0 }, { key := .int .i64 4, val := .bool y, born := 1 }, { key := .int .i64 5, val := .bool z, born := 2 }]
/-- the flags when some entries have come -/
def fl (x y z : Bool) (seen : Array Nat) : Nat := Bp.flags (x && seen.contains 0) (y && seen.contains 1) (z && seen.contains 2)
theorem fl_none (x y z : Bool) : fl x y z #[] = 12 := by simp [fl, Bp.flags]
theorem fl_all (x y z : Bool) (seen : Array Nat) (h : (leftOf (es3 x y z) seen).size = 0) : fl x y z seen = Bp.flags x y z := by
  have hh : leftOf (es3 x y z) seen = #[] := Array.eq_empty_of_size_eq_zero h
  unfold leftOf es3 at hh
  rw [Array.filter_eq_empty_iff] at hh
  have h0 := hh { key := .int .i64 0, val := .bool x, born := 0 } (by simp)
  have h1 := hh { key := .int .i64 4, val := .bool y, born := 1 } (by simp)
  have h2 := hh { key := .int .i64 5, val := .bool z, born := 2 } (by simp)
  simp only [Bool.not_eq_true', Bool.not_eq_false] at h0 h1 h2
  simp only [fl, h0, h1, h2, Bool.and_true]
theorem push0 (x y z : Bool) (seen : Array Nat) : fl x y z (seen.push 0) = Bp.flags x (y && seen.contains 1) (z && seen.contains 2) := by simp [fl]
theorem push1 (x y z : Bool) (seen : Array Nat) : fl x y z (seen.push 1) = Bp.flags (x && seen.contains 0) y (z && seen.contains 2) := by simp [fl]
theorem push2 (x y z : Bool) (seen : Array Nat) : fl x y z (seen.push 2) = Bp.flags (x && seen.contains 0) (y && seen.contains 1) z := by simp [fl]
theorem or0 (y z : Bool) : bits .or .i64 (Bp.flags false y z : Int) 1 = (Bp.flags true y z : Int) := by
  rw [show (1 : Int) = ((1 : Nat) : Int) from rfl, i64_or_nat _ _ (by have := Bp.flags_lt false y z; omega) (by omega)]
  cases y <;> cases z <;> decide
theorem or1 (x z : Bool) : bits .or .i64 (Bp.flags x false z : Int) 16 = (Bp.flags x true z : Int) := by
  rw [show (16 : Int) = ((16 : Nat) : Int) from rfl, i64_or_nat _ _ (by have := Bp.flags_lt x false z; omega) (by omega)]
  cases x <;> cases z <;> decide
theorem or2 (x y : Bool) : bits .or .i64 (Bp.flags x y false : Int) 32 = (Bp.flags x y true : Int) := by
  rw [show (32 : Int) = ((32 : Nat) : Int) from rfl, i64_or_nat _ _ (by have := Bp.flags_lt x y false; omega) (by omega)]
  cases x <;> cases y <;> decide
set_option maxRecDepth 100000 in
set_option maxHeartbeats 4000000 in
theorem bpenc_good (r b : Nat) (c p a : Int) (x y z : Bool) (vf vc vp va vr vb res : ByteArray) (hF : Puts (Bp.flags x y z) 1 vf 0) (hC : Puts c 4 vc 0) (hP : Puts p 2 vp 0) (hA : Puts a 1 va 0) (hR : Eights r vr) (hE : Eights b vb)
    (sf : vf.size ≤ 8) (sc : vc.size ≤ 8) (sp : vp.size ≤ 8) (sa : va.size ≤ 8) (sr : vr.size ≤ 8) (sb : vb.size ≤ 8) (hres : ⟨#[66, 66, 3, 0, 0, 2, 2]⟩ ++ vf ++ vr ++ vc ++ vb ++ vp ++ va ++ ⟨#[0, 20, 0, 2, 0, 15, 0, 0]⟩ = res) (w : World) :
    Calls Tryz.prog 56 #[.agg #[.int .u64 (r : Int), .int .i64 c, .int .u64 (b : Int), .int .i64 p, .int .i64 a, .bool x, .bool y, .bool z]] w fun e w' => e = .returned (.tuple #[.string res, .int .i64 0]) ∧ Below w.heap.size w w' := by
  obtain ⟨y1, hy1⟩ : ∃ y : ByteArray, y = ⟨#[66, 66, 3, 0, 0, 2, 2]⟩ ++ vf := ⟨_, rfl⟩
  obtain ⟨y2, hy2⟩ : ∃ y, y = y1 ++ vr := ⟨_, rfl⟩
  obtain ⟨y3, hy3⟩ : ∃ y, y = y2 ++ vc := ⟨_, rfl⟩
  obtain ⟨y4, hy4⟩ : ∃ y, y = y3 ++ vb := ⟨_, rfl⟩
  obtain ⟨y5, hy5⟩ : ∃ y, y = y4 ++ vp := ⟨_, rfl⟩
  obtain ⟨y6, hy6⟩ : ∃ y, y = y5 ++ va := ⟨_, rfl⟩
  have hy7 : res = y6 ++ ⟨#[0, 20, 0, 2, 0, 15, 0, 0]⟩ := by rw [hy6, hy5, hy4, hy3, hy2, hy1, hres]
  have s1 : y1.size ≤ 16 := by rw [hy1, size_add]; have : (⟨#[66, 66, 3, 0, 0, 2, 2]⟩ : ByteArray).size = 7 := rfl; omega
  have s2 : y2.size ≤ 24 := by rw [hy2, size_add]; omega
  have s3 : y3.size ≤ 32 := by rw [hy3, size_add]; omega
  have s4 : y4.size ≤ 40 := by rw [hy4, size_add]; omega
  have s5 : y5.size ≤ 48 := by rw [hy5, size_add]; omega
  have s6 : y6.size ≤ 56 := by rw [hy6, size_add]; omega
  have j1 := join2 ⟨#[66, 66, 3, 0, 0, 2, 2]⟩ vf (by show 7 + vf.size ≤ _; omega)
  have j2 := join2 y1 vr (by omega)
  have j3 := join2 y2 vc (by omega)
  have j4 := join2 y3 vb (by omega)
  have j5 := join2 y4 vp (by omega)
  have j6 := join2 y5 va (by omega)
  have j7 := join2 y6 ⟨#[0, 20, 0, 2, 0, 15, 0, 0]⟩ (by show y6.size + 8 ≤ _; omega)
  rw [← hy1] at j1
  rw [← hy2] at j2
  rw [← hy3] at j3
  rw [← hy4] at j4
  rw [← hy5] at j5
  rw [← hy6] at j6
  rw [← hy7] at j7
  clear hy1 hy2 hy3 hy4 hy5 hy6 hy7 s1 s2 s3 s4 s5 s6 sf sc sp sa sr sb hres
  have hmm := @run_makeMap Tryz.prog
  obtain ⟨u, hu⟩ : ∃ u, u = w.alloc (.cells #[.int .u64 (r : Int), .int .i64 c, .int .u64 (b : Int), .int .i64 p, .int .i64 a, .bool x, .bool y, .bool z] 118) := ⟨_, rfl⟩
  have hus : u.heap.size = w.heap.size + 1 := by rw [hu]; simp
  have i0 := run_insert u #[] 0 0 (.bool x) rfl
  have i1 := run_insert u #[{ key := .int .i64 0, val := .bool x, born := 0 }] 1 4 (.bool y) rfl
  have i2 := run_insert u #[{ key := .int .i64 0, val := .bool x, born := 0 }, { key := .int .i64 4, val := .bool y, born := 1 }] 2 5 (.bool z) rfl
  rw [hus] at i0 i1 i2
  simp only [List.push_toArray, List.nil_append, List.cons_append, Nat.zero_add, Nat.reduceAdd] at i0 i1 i2
  obtain ⟨U, hU⟩ : ∃ U, U = u.alloc (.map (es3 x y z) 3) := ⟨_, rfl⟩
  have i3 : (Instr.mapUpdate 268 (.map (some (w.heap.size + 1))) (.int .i64 5) (.bool z)).run Tryz.prog (u.alloc (.map #[{ key := .int .i64 0, val := .bool x, born := 0 }, { key := .int .i64 4, val := .bool y, born := 1 }] 2)) = .ok () U := by rw [i2, hU]; rfl
  have hb : U.heap[w.heap.size + 1]? = some (.map (es3 x y z) 3) := by rw [hU, ← hus]; exact heap_alloc_new u _
  have hB0 : Below w.heap.size w U := by rw [hU, hu]; exact ((Below.refl _ _).alloc (Nat.le_refl _) _).alloc (by simp) _
  have hUs : U.heap.size = w.heap.size + 2 := by rw [hU]; show (u.heap.push _).size = _; rw [Array.size_push, hus]
  have hcs : ∀ j, U.cell? ⟨w.heap.size, j, none⟩ = (#[.int .u64 (r : Int), .int .i64 c, .int .u64 (b : Int), .int .i64 p, .int .i64 a, .bool x, .bool y, .bool z] : Array Value)[j]? := by
    intro j
    have h : U.heap[w.heap.size]? = some (.cells #[.int .u64 (r : Int), .int .i64 c, .int .u64 (b : Int), .int .i64 p, .int .i64 a, .bool x, .bool y, .bool z] 118) := by
      rw [hU, heap_alloc_old u _ (by rw [hus]; omega), hu]; exact heap_alloc_new w _
    simp [World.cell?, h]
  have hrg := run_range_map (P := Tryz.prog) U 268 3 4 (w.heap.size + 1) (es3 x y z) 3 Tryz.underlying268 hb
  have hold : ∀ e ∈ (es3 x y z).toList, e.born < 3 := by
    intro e he
    simp only [es3, List.mem_cons, List.not_mem_nil, or_false] at he
    rcases he with rfl | rfl | rfl <;> simp
  have hnd : ((es3 x y z).toList.map (·.born)).Nodup := by simp [es3]
  have HB := Lib.hid hb
  have HU := Lib.hid hUs
  have HCS := Lib.hid hcs
  have HOLD := Lib.hid hold
  have HND := Lib.hid hnd
  rw [hu] at i0 i1 i3
  clear hU hu hus i2 hb hUs hcs hold hnd
  go_enter Tryz.func56, Tryz.ntmps56
  go_wp2_with fail
  clear i0 i1 i3 hrg hmm
  go_loopw [4] (fun f wr => ∃ seen : Array Nat, wr.heap[U.heap.size]? = some (.mapIter (some (w.heap.size + 1)) 3 seen 3) ∧ Below U.heap.size U wr ∧ f = .int .i64 (fl x y z seen)) (fun _ wr => (leftOf (es3 x y z) (wr.iterSeen U.heap.size)).size)
  case atStart => exact ⟨#[], heap_alloc_new U _, (Below.refl _ _).alloc (Nat.le_refl _) _, by rw [fl_none]; rfl⟩
  case round =>
    obtain ⟨seen, hit, hbu, rfl⟩ := hrel
    have hr2 : w.heap.size + 1 < U.heap.size := by have := HU.out; omega
    rcases next_step wr U.heap.size (w.heap.size + 1) 3 seen (es3 x y z) hit ((hbu.block _ hr2).trans HB.out) hr2 HOLD.out HND.out with ⟨h0, hnx⟩ | ⟨e, he, w2, hnx, hen, hit2, hbl2⟩
    · have hB3 : Below w.heap.size w wr := hB0.trans (hbu.mono (by omega))
      have hs3 : w.heap.size < wr.heap.size := by have := hbu.size; omega
      have hc3 : ∀ j, wr.cell? ⟨w.heap.size, j, none⟩ = (#[.int .u64 (r : Int), .int .i64 c, .int .u64 (b : Int), .int .i64 p, .int .i64 a, .bool x, .bool y, .bool z] : Array Value)[j]? := fun j => by
        rw [← HCS.out j]
        exact hbu.cell (p := ⟨w.heap.size, j, none⟩) (by show w.heap.size < _; omega)
      have c0 : wr.cell? ⟨w.heap.size, 0, none⟩ = some (.int .u64 (r : Int)) := hc3 0
      have c1 : wr.cell? ⟨w.heap.size, 1, none⟩ = some (.int .i64 c) := hc3 1
      have c2 : wr.cell? ⟨w.heap.size, 2, none⟩ = some (.int .u64 (b : Int)) := hc3 2
      have c3 : wr.cell? ⟨w.heap.size, 3, none⟩ = some (.int .i64 p) := hc3 3
      have c4 : wr.cell? ⟨w.heap.size, 4, none⟩ = some (.int .i64 a) := hc3 4
      rw [fl_all x y z seen h0]
      clear hc3 h0 hit hr2
      go_wp2_with (first | ((with_reducible refine (hF.to _).mono ?_); rintro e w4 ⟨rfl, h4⟩; obtain ⟨bc4, bf4⟩ := bcell h4; have hs4 := Nat.lt_of_lt_of_le hs3 h4.size) | ((with_reducible refine (hC.to _).mono ?_); rintro e w5 ⟨rfl, h5⟩; obtain ⟨bc5, bf5⟩ := bcell h5; have hs5 := Nat.lt_of_lt_of_le hs4 h5.size) | ((with_reducible refine (hP.to _).mono ?_); rintro e w6 ⟨rfl, h6⟩; obtain ⟨bc6, bf6⟩ := bcell h6; have hs6 := Nat.lt_of_lt_of_le hs5 h6.size) | ((with_reducible refine (hA.to _).mono ?_); rintro e w7 ⟨rfl, h7⟩; obtain ⟨bc7, bf7⟩ := bcell h7; have hs7 := Nat.lt_of_lt_of_le hs6 h7.size))
      have k0 : w7.cell? ⟨w.heap.size, 0, none⟩ = some (.int .u64 (r : Int)) := by rw [bc7 _ _ hs6, bc6 _ _ hs5, bc5 _ _ hs4, bc4 _ _ hs3]; exact c0
      have k2 : w7.cell? ⟨w.heap.size, 2, none⟩ = some (.int .u64 (b : Int)) := by rw [bc7 _ _ hs6, bc6 _ _ hs5, bc5 _ _ hs4, bc4 _ _ hs3]; exact c2
      have HS := Lib.hid hs7
      clear bc4 bc5 bc6 bc7 bf4 bf5 bf6 bf7 c0 c1 c2 c3 c4 hs3 hs4 hs5 hs6 hs7
      go_region_with (first | ((with_reducible refine (hR.to _).mono ?_); rintro e w8 ⟨rfl, h8⟩; have k8 : w8.cell? ⟨w.heap.size, 2, none⟩ = some (.int .u64 (b : Int)) := (h8.cell (p := ⟨w.heap.size, 2, none⟩) HS.out).trans k2) | ((with_reducible refine (hE.to _).mono ?_); rintro e w9 ⟨rfl, h9⟩))
      all_goals
        go_wp2
        simp only [Act.put, List.setIfInBounds_toArray, List.set_cons_succ, List.set_cons_zero, List.getElem_toArray, List.getElem_cons_succ, List.getElem_cons_zero]
        go_ret2
        refine ⟨rfl, ?_⟩
        exact bstep (bstep (bstep (bstep (bstep (bstep hB3 h4) h5) h6) h7).drew h8) h9
    · obtain ⟨hin, hns⟩ := mem_left he
      have hsh := left_shrinks (es3 x y z) seen e he
      simp only [es3, List.mem_cons, List.not_mem_nil, or_false] at hin
      have hbu2 : Below U.heap.size U w2 := hbu.trans hbl2
      have hme : (leftOf (es3 x y z) (w2.iterSeen U.heap.size)).size < (leftOf (es3 x y z) (wr.iterSeen U.heap.size)).size := by
        unfold World.iterSeen; rw [hit, hit2]; exact hsh
      have HME := Lib.hid hme
      have HIT := Lib.hid hit2
      clear hme hit2 hit hr2 he hsh
      rcases hin with rfl | rfl | rfl
      · cases x with
        | true =>
          have hor : bits .or .i64 (fl true y z seen : Int) 1 = (fl true y z (seen.push 0) : Int) := by
            rw [push0]; unfold fl; rw [show seen.contains 0 = false from hns]; simp only [Bool.and_false]; exact or0 _ _
          go_wp2_with fail
          go_roundw
          case rel => exact ⟨seen.push 0, HIT.out, hbu2, rfl⟩
          case measure => have h := HME.out; simp only [es3] at h ⊢; exact h
        | false =>
          have hor : fl false y z seen = fl false y z (seen.push 0) := by
            rw [push0]; unfold fl; simp only [Bool.false_and]
          have HO := Lib.hid hor
          clear hor
          go_wp2_with fail
          go_roundw
          case rel => exact ⟨seen.push 0, HIT.out, hbu2, by rw [HO.out]⟩
          case measure => have h := HME.out; simp only [es3] at h ⊢; exact h
      · cases y with
        | true =>
          have hor : bits .or .i64 (fl x true z seen : Int) 16 = (fl x true z (seen.push 1) : Int) := by
            rw [push1]; unfold fl; rw [show seen.contains 1 = false from hns]; simp only [Bool.and_false]; exact or1 _ _
          go_wp2_with fail
          go_roundw
          case rel => exact ⟨seen.push 1, HIT.out, hbu2, rfl⟩
          case measure => have h := HME.out; simp only [es3] at h ⊢; exact h
        | false =>
          have hor : fl x false z seen = fl x false z (seen.push 1) := by
            rw [push1]; unfold fl; simp only [Bool.false_and]
          have HO := Lib.hid hor
          clear hor
          go_wp2_with fail
          go_roundw
          case rel => exact ⟨seen.push 1, HIT.out, hbu2, by rw [HO.out]⟩
          case measure => have h := HME.out; simp only [es3] at h ⊢; exact h
      · cases z with
        | true =>
          have hor : bits .or .i64 (fl x y true seen : Int) 32 = (fl x y true (seen.push 2) : Int) := by
            rw [push2]; unfold fl; rw [show seen.contains 2 = false from hns]; simp only [Bool.and_false]; exact or2 _ _
          go_wp2_with fail
          go_roundw
          case rel => exact ⟨seen.push 2, HIT.out, hbu2, rfl⟩
          case measure => have h := HME.out; simp only [es3] at h ⊢; exact h
        | false =>
          have hor : fl x y false seen = fl x y false (seen.push 2) := by
            rw [push2]; unfold fl; simp only [Bool.false_and]
          have HO := Lib.hid hor
          clear hor
          go_wp2_with fail
          go_roundw
          case rel => exact ⟨seen.push 2, HIT.out, hbu2, by rw [HO.out]⟩
          case measure => have h := HME.out; simp only [es3] at h ⊢; exact h
theorem bpenc_ok (r b c p a : Nat) (x y z : Bool) (hc : c < 4294967296) (hp : p < 65536) (ha : a < 256) (w : World) :
    Calls Tryz.prog 56 #[.agg #[.int .u64 r, .int .i64 c, .int .u64 b, .int .i64 p, .int .i64 a, .bool x, .bool y, .bool z]] w
      fun e w' => e = .returned (.tuple #[.string ⟨(Bp.enc r c b p a x y z).toArray⟩, .int .i64 0]) ∧ Below w.heap.size w w' := by
  have hf := Bp.flags_lt x y z
  refine bpenc_good r b c p a x y z _ _ _ _ _ _ _ (puts_good _ 1 (by omega) (by decide) (by decide) (by omega)) (puts_good c 4 (by omega) (by decide) (by decide) (by omega)) (puts_good p 2 (by omega) (by decide) (by decide) (by omega)) (puts_good a 1 (by omega) (by decide) (by decide) (by omega)) (eight_any r) (eight_any b) ?_ ?_ ?_ ?_ ?_ ?_ ?_ w
  all_goals try (rw [size_mk, Pl.be_length]; omega)
  rw [show (⟨#[66, 66, 3, 0, 0, 2, 2]⟩ : ByteArray) = ⟨Bp.front.toArray⟩ from rfl, show (⟨#[0, 20, 0, 2, 0, 15, 0, 0]⟩ : ByteArray) = ⟨Bp.back.toArray⟩ from rfl]
  simp only [ba_append]
  rfl
end Go.Proofs.YticdmepplfgdiaaGreatDoor
