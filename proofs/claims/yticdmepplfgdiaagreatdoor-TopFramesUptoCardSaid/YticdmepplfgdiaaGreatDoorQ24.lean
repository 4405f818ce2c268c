/-
  What vlan.asked and vlan.In compute. Conditions: lists' lengths lie well within an int. What vlan.In computes. Conditions: lists' lengths lie well within an int. What vlan.Out computes. Conditions: lists' lengths lie well within an int.
-/
import Derived.Deep.RegionWith
import Derived.Test.YticdmepplfgdiaaGreatDoorQ18
import Derived.Test.YticdmepplfgdiaaGreatDoorQ15
import Derived.Test.YticdmepplfgdiaaGreatDoorQ14
set_option linter.unusedVariables false
set_option linter.unusedSimpArgs false
section
namespace Go.Proofs.YticdmepplfgdiaaGreatDoor
open Go.RowKit
/-- a port as a value -/
def Pt.val (x : Pt) : Value := .agg #[.int .i64 x.d, .slice x.ta x.t.length x.tc, .slice x.pa x.p.length x.pc]
def zeroPort : Value := .agg #[.int .i64 0, .slice none 0 0, .slice none 0 0]
def zeroFr : Value := .agg #[.string ⟨#[]⟩, .string ⟨#[]⟩, .bool false, .int .i64 0, .int .i64 0, .int .i64 0, .string ⟨#[]⟩]
/-- the port that is asked for, or why there is none: 0: it is there -/
def Asked (ps : List Pt) (q : Int) (ok : Prop) (c : Int) (x : Option Pt) : Prop :=
  (c = 3 ∧ ¬ OkPorts ps ∧ x = none) ∨ (OkPorts ps ∧ c = 1 ∧ (q < 0 ∨ (ps.length : Int) ≤ q ∨ ¬ ok) ∧ x = none) ∨ (OkPorts ps ∧ c = 0 ∧ ok ∧ ∃ (k : Nat) (y : Pt), q = k ∧ ps[k]? = some y ∧ x = some y)
def portOf : Option Pt → Value | none => zeroPort | some x => x.val
/-- the frame's box and the result's box behind it -/
theorem new73 (w : World) (u0 u1 u2 u3 u4 u5 u6 z0 z1 z2 : Value) (t t2 : TypeId) :
    Box3 ((w.alloc (.cells #[u0, u1, u2, u3, u4, u5, u6] t)).alloc (.cells #[z0, z1, z2] t2)) (w.heap.size + 1) z0 z1 z2 ∧ Box7 ((w.alloc (.cells #[u0, u1, u2, u3, u4, u5, u6] t)).alloc (.cells #[z0, z1, z2] t2)) w.heap.size u0 u1 u2 u3 u4 u5 u6 ∧
      Below w.heap.size w ((w.alloc (.cells #[u0, u1, u2, u3, u4, u5, u6] t)).alloc (.cells #[z0, z1, z2] t2)) := by
  have h := Box3.new (w.alloc (.cells #[u0, u1, u2, u3, u4, u5, u6] t)) z0 z1 z2 t2
  rw [World.size_alloc] at h
  exact ⟨h, (Box7.new w u0 u1 u2 u3 u4 u5 u6 t).below (bbox1 _ _), ball (bbox1 _ _) _⟩
set_option maxRecDepth 100000 in
set_option maxHeartbeats 2000000 in
theorem asked_any (v : Value) (ps : List Pt) (q : Int) (dst src data : ByteArray) (tg : Bool) (vl pr ty : Int) (c : Int) (x : Option Pt) (hz : data.size ≤ 140737488351232) (hA : Asked ps q (Good3 dst src tg vl pr ty data) c x) (w : World) (hv : Ports w v ps) :
    Calls Tryz.prog 107 #[v, .int .i64 q, fr dst src tg vl pr ty data] w fun e w' => e = .returned (.tuple #[portOf x, .int .i64 c]) ∧ Below w.heap.size w w' := by
  obtain ⟨N3, N7, NB⟩ := new73 w (.string dst) (.string src) (.bool tg) (.int .i64 vl) (.int .i64 pr) (.int .i64 ty) (.string data) (.int .i64 0) (.slice none 0 0) (.slice none 0 0) 47 69
  have V2h := Lib.hid (hv.below NB)
  have hvv := hv
  obtain ⟨a, cap, rfl, hzl, hx, h⟩ := hvv
  unfold fr
  rcases hA with ⟨rfl, hno, rfl⟩ | ⟨hok, rfl, hq, rfl⟩ | ⟨hok, rfl, hg, k, y, rfl, hk, rfl⟩
  · have HK := Lib.hid (fun (vv : Value) (W : World) (V : Ports W vv ps) => check_any vv ps 3 (.inr ⟨rfl, hno⟩) W V)
    clear h hx hno hv
    go_enter Tryz.func107, Tryz.ntmps107
    go_wp2_with ((with_reducible refine (HK.out _ _ V2h.out).mono ?_); rintro e w1 ⟨rfl, g1⟩; obtain ⟨z3, p0, p1, p2, pf⟩ := N3.below g1)
    exact bodyPost_ret (v := .tuple #[zeroPort, .int .i64 3]) (by simp [zeroPort, results, Tryz.results107, go_sem, p0, p1, p2]) rfl ⟨rfl, by (repeat (with_reducible refine Below.setCell ?_ (by simp) _)); exact bstep NB g1⟩
  · have HK := Lib.hid (fun (vv : Value) (W : World) (V : Ports W vv ps) => check_any vv ps 0 (.inl ⟨rfl, hok⟩) W V)
    have hq2 : (decide (q < 0) = true) ∨ (decide (q < 0) = false ∧ decide ((ps.length : Int) ≤ q) = true) ∨ (decide (q < 0) = false ∧ decide ((ps.length : Int) ≤ q) = false ∧ ¬ Good3 dst src tg vl pr ty data) := by
      by_cases c1 : q < 0
      · exact .inl (decide_eq_true c1)
      · by_cases c2 : (ps.length : Int) ≤ q
        · exact .inr (.inl ⟨decide_eq_false c1, decide_eq_true c2⟩)
        · exact .inr (.inr ⟨decide_eq_false c1, decide_eq_false c2, (hq.resolve_left c1).resolve_left c2⟩)
    clear h hx hok hv hq
    rcases hq2 with q1 | ⟨q1, q2⟩ | ⟨q1, q2, hno⟩
    · go_enter Tryz.func107, Tryz.ntmps107
      go_wp2_with ((with_reducible refine (HK.out _ _ V2h.out).mono ?_); rintro e w1 ⟨rfl, g1⟩; obtain ⟨z3, p0, p1, p2, pf⟩ := N3.below g1)
      exact bodyPost_ret (v := .tuple #[zeroPort, .int .i64 1]) (by simp [zeroPort, results, Tryz.results107, go_sem, p0, p1, p2]) rfl ⟨rfl, by (repeat (with_reducible refine Below.setCell ?_ (by simp) _)); exact bstep NB g1⟩
    · go_enter Tryz.func107, Tryz.ntmps107
      go_wp2_with ((with_reducible refine (HK.out _ _ V2h.out).mono ?_); rintro e w1 ⟨rfl, g1⟩; obtain ⟨z3, p0, p1, p2, pf⟩ := N3.below g1)
      exact bodyPost_ret (v := .tuple #[zeroPort, .int .i64 1]) (by simp [zeroPort, results, Tryz.results107, go_sem, p0, p1, p2]) rfl ⟨rfl, by (repeat (with_reducible refine Below.setCell ?_ (by simp) _)); exact bstep NB g1⟩
    · have HE := Lib.hid (fun (W : World) => encodes_is dst src data tg vl pr ty false hz (iff_of_false (by decide) hno) W)
      clear hno hz
      go_enter Tryz.func107, Tryz.ntmps107
      go_wp2_with (first | ((with_reducible refine (HK.out _ _ V2h.out).mono ?_); rintro e w1 ⟨rfl, g1⟩; obtain ⟨y1, c0, c1, c2, c3, c4, c5, c6, cf⟩ := N7.below g1) | ((with_reducible refine (HE.out _).mono ?_); rintro e w2 ⟨rfl, g2⟩; obtain ⟨z3, p0, p1, p2, pf⟩ := (N3.below g1).below g2))
      exact bodyPost_ret (v := .tuple #[zeroPort, .int .i64 1]) (by simp [zeroPort, results, Tryz.results107, go_sem, p0, p1, p2]) rfl ⟨rfl, by (repeat (with_reducible refine Below.setCell ?_ (by simp) _)); exact bstep (bstep NB g1) g2⟩
  · have HK := Lib.hid (fun (vv : Value) (W : World) (V : Ports W vv ps) => check_any vv ps 0 (.inl ⟨rfl, hok⟩) W V)
    have HE := Lib.hid (fun (W : World) => encodes_is dst src data tg vl pr ty true hz (iff_of_true rfl hg) W)
    have hlt : k < ps.length := (List.getElem?_eq_some_iff.1 hk).1
    obtain ⟨b, o, x', rfl, hb, hxk, hxm, d0, d1, d2⟩ := Ports.at h hlt
    rw [hk] at hxk
    obtain rfl := Option.some.inj hxk
    have q1 : decide ((k : Int) < 0) = false := decide_eq_false (by omega)
    have q2 : decide ((ps.length : Int) ≤ (k : Int)) = false := decide_eq_false (by omega)
    have hlt2 : (k : Int) < (ps.length : Int) := by omega
    clear h hx hok hv hg hk hxk hxm hz
    go_enter Tryz.func107, Tryz.ntmps107
    go_wp2_with (first | ((with_reducible refine (HK.out _ _ V2h.out).mono ?_); rintro e w1 ⟨rfl, g1⟩; obtain ⟨y1, c0, c1, c2, c3, c4, c5, c6, cf⟩ := N7.below g1) | ((with_reducible refine (HE.out _).mono ?_); rintro e w2 ⟨rfl, g2⟩; obtain ⟨z3, p0, p1, p2, pf⟩ := (N3.below g1).below g2; have BB := bstep (bstep NB g1) g2; have m0 := (BB.cell (p := ⟨b, o + k * 3, none⟩) hb).trans d0; have m1 := (BB.cell (p := ⟨b, o + k * 3 + 1, none⟩) hb).trans d1; have m2 := (BB.cell (p := ⟨b, o + k * 3 + 2, none⟩) hb).trans d2))
    exact bodyPost_ret (v := .tuple #[y.val, .int .i64 0]) (by simp [Pt.val, results, Tryz.results107, go_sem, p0, p1, p2]) rfl ⟨rfl, by (repeat (with_reducible refine Below.setCell ?_ (by simp) _)); exact bstep (bstep NB g1) g2⟩
end Go.Proofs.YticdmepplfgdiaaGreatDoor
end
section
namespace Go.Proofs.YticdmepplfgdiaaGreatDoor
open Go.RowKit
theorem Box7.tag {W : World} {b : Nat} {v0 v1 v2 v3 v4 v5 v6 x2 x3 : Value} (h : Box7 W b v0 v1 v2 v3 v4 v5 v6) : Box7 ((W.setCell ⟨b, 2, none⟩ x2).setCell ⟨b, 3, none⟩ x3) b v0 v1 x2 x3 v4 v5 v6 := by
  obtain ⟨z, c0, c1, c2, c3, c4, c5, c6, cf⟩ := h
  have same : ∀ {W : World} {k : Nat} {u x : Value}, W.cell? ⟨b, k, none⟩ = some u → (W.setCell ⟨b, k, none⟩ x).cell? ⟨b, k, none⟩ = some x := fun h => World.cell?_setCell_same _ _ _ h
  have far : ∀ {W : World} {j k : Nat} {u x : Value}, j ≠ k → W.cell? ⟨b, k, none⟩ = some u → (W.setCell ⟨b, j, none⟩ x).cell? ⟨b, k, none⟩ = some u := fun hn h => (World.cell?_setCell_other _ _ _ _ (by intro e; cases e; exact hn rfl)).trans h
  refine ⟨by simpa using z, far (by decide) (far (by decide) c0), far (by decide) (far (by decide) c1), far (by decide) (same c2), same (far (by decide) c3), far (by decide) (far (by decide) c4), far (by decide) (far (by decide) c5), far (by decide) (far (by decide) c6), fun k => by simpa using cf k⟩
theorem Box3.drew {W : World} {b : Nat} {v0 v1 v2 : Value} (h : Box3 W b v0 v1 v2) : Box3 W.drew b v0 v1 v2 := h
theorem Box3.put {W : World} {b c o : Nat} {v0 v1 v2 x : Value} (h : Box3 W b v0 v1 v2) (hc : b ≠ c) : Box3 (W.setCell ⟨c, o, none⟩ x) b v0 v1 v2 := by
  obtain ⟨z, c0, c1, c2, cf⟩ := h
  have far : ∀ k, (W.setCell ⟨c, o, none⟩ x).cell? ⟨b, k, none⟩ = W.cell? ⟨b, k, none⟩ := fun k => World.cell?_setCell_other W _ _ _ (by intro e; cases e; exact hc rfl)
  exact ⟨by simpa using z, (far 0).trans c0, (far 1).trans c1, (far 2).trans c2, fun k => by rw [World.frozen?_setCell]; exact cf k⟩
/-- two frames' boxes -/
theorem new77 (w : World) (u0 u1 u2 u3 u4 u5 u6 z0 z1 z2 z3 z4 z5 z6 : Value) (t t2 : TypeId) :
    Box7 ((w.alloc (.cells #[u0, u1, u2, u3, u4, u5, u6] t)).alloc (.cells #[z0, z1, z2, z3, z4, z5, z6] t2)) (w.heap.size + 1) z0 z1 z2 z3 z4 z5 z6 ∧ Box7 ((w.alloc (.cells #[u0, u1, u2, u3, u4, u5, u6] t)).alloc (.cells #[z0, z1, z2, z3, z4, z5, z6] t2)) w.heap.size u0 u1 u2 u3 u4 u5 u6 ∧
      Below w.heap.size w ((w.alloc (.cells #[u0, u1, u2, u3, u4, u5, u6] t)).alloc (.cells #[z0, z1, z2, z3, z4, z5, z6] t2)) := by
  have h := Box7.new (w.alloc (.cells #[u0, u1, u2, u3, u4, u5, u6] t)) z0 z1 z2 z3 z4 z5 z6 t2
  rw [World.size_alloc] at h
  exact ⟨h, (Box7.new w u0 u1 u2 u3 u4 u5 u6 t).below (bbox1 _ _), ball (bbox1 _ _) _⟩
set_option maxRecDepth 100000 in
set_option maxHeartbeats 2000000 in
theorem in_new (v : Value) (ps : List Pt) (q : Int) (dst src data : ByteArray) (tg : Bool) (pr ty e0 : Int) (y : Pt) (r : Bool) (u : Value) (hz : data.size ≤ 140737488351232) (hA : Asked ps q (Good3 dst src tg 0 pr ty data) 0 (some y)) (hy : y ∈ ps) (hr : r = true ↔ y.d ∈ y.t ∨ y.d ∈ y.p)
    (hu : (y.d = 0 ∧ u = zeroFr ∧ e0 = 6) ∨ (y.d ≠ 0 ∧ r = false ∧ u = zeroFr ∧ e0 = 6) ∨ (y.d ≠ 0 ∧ r = true ∧ u = fr dst src true y.d pr ty data ∧ e0 = 0)) (w : World) (hv : Ports w v ps) :
    Calls Tryz.prog 44 #[v, .int .i64 q, fr dst src tg 0 pr ty data] w fun e w' => e = .returned (.tuple #[u, .int .i64 e0]) ∧ Below w.heap.size w w' := by
  obtain ⟨N3, N7, NB⟩ := new77 w (.string dst) (.string src) (.bool tg) (.int .i64 0) (.int .i64 pr) (.int .i64 ty) (.string data) (.string ⟨#[]⟩) (.string ⟨#[]⟩) (.bool false) (.int .i64 0) (.int .i64 0) (.int .i64 0) (.string ⟨#[]⟩) 47 47
  have HK := Lib.hid (asked_any v ps q dst src data tg 0 pr ty 0 (some y) hz hA _ (hv.below NB))
  obtain ⟨a, cap, rfl, hzl, hx, h⟩ := hv
  have L0 := hx y hy
  have LL := L0
  obtain ⟨-, -, n1, n2⟩ := LL
  have HM := Lib.hid (fun (W : World) (L : Pt.Lies W y) => member_any y.d (.slice y.ta y.t.length y.tc) (.slice y.pa y.p.length y.pc) y.t y.p y.d r hr n1 n2 W L.1 L.2.1)
  have HL := Lib.hid L0
  unfold fr portOf Pt.val at HK
  unfold fr
  clear hA hz hx h hy hr L0 n1 n2
  have hu2 : ((y.d == 0) = true ∧ u = zeroFr ∧ e0 = 6) ∨ ((y.d == 0) = false ∧ r = false ∧ u = zeroFr ∧ e0 = 6) ∨ ((y.d == 0) = false ∧ r = true ∧ u = fr dst src true y.d pr ty data ∧ e0 = 0) := by
    rw [beq_iff_eq, beq_eq_false_iff_ne]; exact hu
  clear hu
  rcases hu2 with ⟨hd, rfl, rfl⟩ | ⟨hd, rfl, rfl, rfl⟩ | ⟨hd, rfl, rfl, rfl⟩
  · go_enter Tryz.func44, Tryz.ntmps44
    go_wp2_with ((with_reducible refine HK.out.mono ?_); rintro e w1 ⟨rfl, g1⟩; have b1 := bstep NB g1; have F1 := (N7.below g1).below (bbox1 w1 (.cells #[.int .i64 y.d, .slice y.ta y.t.length y.tc, .slice y.pa y.p.length y.pc] 69)); have F0 := F1; obtain ⟨y1, c0, c1, c2, c3, c4, c5, c6, cf⟩ := F0)
    have hs1 := b1.size
    have hs2 := g1.size
    simp only [World.size_alloc] at hs2
    have W5e : ∃ W5, W5 = (((w1.alloc (.cells #[.int .i64 y.d, .slice y.ta y.t.length y.tc, .slice y.pa y.p.length y.pc] 69)).setCell ⟨w.heap.size, 2, none⟩ (.bool true)).setCell ⟨w.heap.size, 3, none⟩ (.int .i64 y.d)).drew := ⟨_, rfl⟩
    have F5 := (F1.tag (x2 := .bool true) (x3 := .int .i64 y.d)).drew
    have P5 := ((((N3.below g1).below (bbox1 w1 (.cells #[.int .i64 y.d, .slice y.ta y.t.length y.tc, .slice y.pa y.p.length y.pc] 69))).put (c := w.heap.size) (o := 2) (x := .bool true) (by omega)).put (c := w.heap.size) (o := 3) (x := .int .i64 y.d) (by omega)).drew
    have Q5 := (((Box3.new w1 (.int .i64 y.d) (.slice y.ta y.t.length y.tc) (.slice y.pa y.p.length y.pc) 69).put (c := w.heap.size) (o := 2) (x := .bool true) (by omega)).put (c := w.heap.size) (o := 3) (x := .int .i64 y.d) (by omega)).drew
    have B5 := (((ball b1 (.cells #[.int .i64 y.d, .slice y.ta y.t.length y.tc, .slice y.pa y.p.length y.pc] 69)).setCell (p := ⟨w.heap.size, 2, none⟩) (Nat.le_refl _) (.bool true)).setCell (p := ⟨w.heap.size, 3, none⟩) (Nat.le_refl _) (.int .i64 y.d)).drew
    obtain ⟨W5, e5⟩ := W5e
    go_region_with (fail)
    all_goals
      rw [← e5] at F5 P5 Q5 B5 ⊢
      clear e5 c0 c1 c2 c3 c4 c5 c6 cf F1
      obtain ⟨y5, d0, d1, d2, d3, d4, d5, d6, df⟩ := F5
      obtain ⟨z5, m0, m1, m2, mf⟩ := Q5
      obtain ⟨z3, p0, p1, p2, p3, p4, p5, p6, pf⟩ := P5
      go_wp2
      exact bodyPost_ret (v := .tuple #[zeroFr, .int .i64 6]) (by simp [zeroFr, results, Tryz.results44, go_sem, p0, p1, p2, p3, p4, p5, p6]) rfl ⟨rfl, by (repeat (with_reducible refine Below.setCell ?_ (by simp) _)); exact B5⟩
  · go_enter Tryz.func44, Tryz.ntmps44
    go_wp2_with ((with_reducible refine HK.out.mono ?_); rintro e w1 ⟨rfl, g1⟩; have b1 := bstep NB g1; have F1 := (N7.below g1).below (bbox1 w1 (.cells #[.int .i64 y.d, .slice y.ta y.t.length y.tc, .slice y.pa y.p.length y.pc] 69)); have F0 := F1; obtain ⟨y1, c0, c1, c2, c3, c4, c5, c6, cf⟩ := F0)
    have hs1 := b1.size
    have hs2 := g1.size
    simp only [World.size_alloc] at hs2
    have W5e : ∃ W5, W5 = (((w1.alloc (.cells #[.int .i64 y.d, .slice y.ta y.t.length y.tc, .slice y.pa y.p.length y.pc] 69)).setCell ⟨w.heap.size, 2, none⟩ (.bool true)).setCell ⟨w.heap.size, 3, none⟩ (.int .i64 y.d)).drew := ⟨_, rfl⟩
    have F5 := (F1.tag (x2 := .bool true) (x3 := .int .i64 y.d)).drew
    have P5 := ((((N3.below g1).below (bbox1 w1 (.cells #[.int .i64 y.d, .slice y.ta y.t.length y.tc, .slice y.pa y.p.length y.pc] 69))).put (c := w.heap.size) (o := 2) (x := .bool true) (by omega)).put (c := w.heap.size) (o := 3) (x := .int .i64 y.d) (by omega)).drew
    have Q5 := (((Box3.new w1 (.int .i64 y.d) (.slice y.ta y.t.length y.tc) (.slice y.pa y.p.length y.pc) 69).put (c := w.heap.size) (o := 2) (x := .bool true) (by omega)).put (c := w.heap.size) (o := 3) (x := .int .i64 y.d) (by omega)).drew
    have B5 := (((ball b1 (.cells #[.int .i64 y.d, .slice y.ta y.t.length y.tc, .slice y.pa y.p.length y.pc] 69)).setCell (p := ⟨w.heap.size, 2, none⟩) (Nat.le_refl _) (.bool true)).setCell (p := ⟨w.heap.size, 3, none⟩) (Nat.le_refl _) (.int .i64 y.d)).drew
    obtain ⟨W5, e5⟩ := W5e
    go_region_with (fail)
    all_goals
      rw [← e5] at F5 P5 Q5 B5 ⊢
      clear e5 c0 c1 c2 c3 c4 c5 c6 cf F1
      obtain ⟨y5, d0, d1, d2, d3, d4, d5, d6, df⟩ := F5
      obtain ⟨z5, m0, m1, m2, mf⟩ := Q5
      go_wp2_with ((with_reducible refine (HM.out _ (HL.out.below B5)).mono ?_); rintro e w2 ⟨rfl, g2⟩; have b2 := bstep B5 g2; obtain ⟨z3, p0, p1, p2, p3, p4, p5, p6, pf⟩ := P5.below g2)
      exact bodyPost_ret (v := .tuple #[zeroFr, .int .i64 6]) (by simp [zeroFr, results, Tryz.results44, go_sem, p0, p1, p2, p3, p4, p5, p6]) rfl ⟨rfl, by (repeat (with_reducible refine Below.setCell ?_ (by simp) _)); exact b2⟩
  · go_enter Tryz.func44, Tryz.ntmps44
    go_wp2_with ((with_reducible refine HK.out.mono ?_); rintro e w1 ⟨rfl, g1⟩; have b1 := bstep NB g1; have F1 := (N7.below g1).below (bbox1 w1 (.cells #[.int .i64 y.d, .slice y.ta y.t.length y.tc, .slice y.pa y.p.length y.pc] 69)); have F0 := F1; obtain ⟨y1, c0, c1, c2, c3, c4, c5, c6, cf⟩ := F0)
    have hs1 := b1.size
    have hs2 := g1.size
    simp only [World.size_alloc] at hs2
    have W5e : ∃ W5, W5 = (((w1.alloc (.cells #[.int .i64 y.d, .slice y.ta y.t.length y.tc, .slice y.pa y.p.length y.pc] 69)).setCell ⟨w.heap.size, 2, none⟩ (.bool true)).setCell ⟨w.heap.size, 3, none⟩ (.int .i64 y.d)).drew := ⟨_, rfl⟩
    have F5 := (F1.tag (x2 := .bool true) (x3 := .int .i64 y.d)).drew
    have P5 := ((((N3.below g1).below (bbox1 w1 (.cells #[.int .i64 y.d, .slice y.ta y.t.length y.tc, .slice y.pa y.p.length y.pc] 69))).put (c := w.heap.size) (o := 2) (x := .bool true) (by omega)).put (c := w.heap.size) (o := 3) (x := .int .i64 y.d) (by omega)).drew
    have Q5 := (((Box3.new w1 (.int .i64 y.d) (.slice y.ta y.t.length y.tc) (.slice y.pa y.p.length y.pc) 69).put (c := w.heap.size) (o := 2) (x := .bool true) (by omega)).put (c := w.heap.size) (o := 3) (x := .int .i64 y.d) (by omega)).drew
    have B5 := (((ball b1 (.cells #[.int .i64 y.d, .slice y.ta y.t.length y.tc, .slice y.pa y.p.length y.pc] 69)).setCell (p := ⟨w.heap.size, 2, none⟩) (Nat.le_refl _) (.bool true)).setCell (p := ⟨w.heap.size, 3, none⟩) (Nat.le_refl _) (.int .i64 y.d)).drew
    obtain ⟨W5, e5⟩ := W5e
    go_region_with (fail)
    all_goals
      rw [← e5] at F5 P5 Q5 B5 ⊢
      clear e5 c0 c1 c2 c3 c4 c5 c6 cf F1
      obtain ⟨y5, d0, d1, d2, d3, d4, d5, d6, df⟩ := F5
      obtain ⟨z5, m0, m1, m2, mf⟩ := Q5
      go_wp2_with ((with_reducible refine (HM.out _ (HL.out.below B5)).mono ?_); rintro e w2 ⟨rfl, g2⟩; have b2 := bstep B5 g2; obtain ⟨z3, p0, p1, p2, p3, p4, p5, p6, pf⟩ := P5.below g2; obtain ⟨y6, k0, k1, k2, k3, k4, k5, k6, kf⟩ := (show Box7 W5 w.heap.size _ _ _ _ _ _ _ from ⟨y5, d0, d1, d2, d3, d4, d5, d6, df⟩).below g2)
      exact bodyPost_ret (v := .tuple #[fr dst src true y.d pr ty data, .int .i64 0]) (by simp [fr, results, Tryz.results44, go_sem, p0, p1, p2, p3, p4, p5, p6]) rfl ⟨rfl, by (repeat (with_reducible refine Below.setCell ?_ (by simp) _)); exact b2⟩
end Go.Proofs.YticdmepplfgdiaaGreatDoor
end
section
namespace Go.Proofs.YticdmepplfgdiaaGreatDoor
open Go.RowKit
theorem Box7.strip {W : World} {b : Nat} {v0 v1 v2 v3 v4 v5 v6 x2 x3 x4 : Value} (h : Box7 W b v0 v1 v2 v3 v4 v5 v6) : Box7 (((W.setCell ⟨b, 2, none⟩ x2).setCell ⟨b, 3, none⟩ x3).setCell ⟨b, 4, none⟩ x4) b v0 v1 x2 x3 x4 v5 v6 := by
  obtain ⟨z, c0, c1, c2, c3, c4, c5, c6, cf⟩ := h.tag (x2 := x2) (x3 := x3)
  have same : ∀ {W : World} {k : Nat} {u x : Value}, W.cell? ⟨b, k, none⟩ = some u → (W.setCell ⟨b, k, none⟩ x).cell? ⟨b, k, none⟩ = some x := fun h => World.cell?_setCell_same _ _ _ h
  have far : ∀ {W : World} {j k : Nat} {u x : Value}, j ≠ k → W.cell? ⟨b, k, none⟩ = some u → (W.setCell ⟨b, j, none⟩ x).cell? ⟨b, k, none⟩ = some u := fun hn h => (World.cell?_setCell_other _ _ _ _ (by intro e; cases e; exact hn rfl)).trans h
  exact ⟨by simpa using z, far (by decide) c0, far (by decide) c1, far (by decide) c2, far (by decide) c3, same c4, far (by decide) c5, far (by decide) c6, fun k => by rw [World.frozen?_setCell]; exact cf k⟩
set_option maxRecDepth 100000 in
set_option maxHeartbeats 4000000 in
theorem out_had (v : Value) (ps : List Pt) (q : Int) (dst src data : ByteArray) (vl pr ty e0 : Int) (y : Pt) (u : Value) (hz : data.size ≤ 140737488351232) (hA : Asked ps q (Good3 dst src true vl pr ty data) 0 (some y)) (hy : y ∈ ps) (hvl : vl ≠ 0)
    (hu : (vl ∈ y.t ∧ u = fr dst src true vl pr ty data ∧ e0 = 0) ∨ (vl ∉ y.t ∧ vl ∉ y.p ∧ u = zeroFr ∧ e0 = 6) ∨
     (vl ∉ y.t ∧ vl ∈ y.p ∧ ¬ Good3 dst src false 0 0 ty data ∧ u = zeroFr ∧ e0 = 6) ∨ (vl ∉ y.t ∧ vl ∈ y.p ∧ Good3 dst src false 0 0 ty data ∧ u = fr dst src false 0 0 ty data ∧ e0 = 0)) (w : World) (hv : Ports w v ps) :
    Calls Tryz.prog 184 #[v, .int .i64 q, fr dst src true vl pr ty data] w fun e w' => e = .returned (.tuple #[u, .int .i64 e0]) ∧ Below w.heap.size w w' := by
  obtain ⟨N3, N7, NB⟩ := new77 w (.string dst) (.string src) (.bool true) (.int .i64 vl) (.int .i64 pr) (.int .i64 ty) (.string data) (.string ⟨#[]⟩) (.string ⟨#[]⟩) (.bool false) (.int .i64 0) (.int .i64 0) (.int .i64 0) (.string ⟨#[]⟩) 47 47
  have HK := Lib.hid (asked_any v ps q dst src data true vl pr ty 0 (some y) hz hA _ (hv.below NB))
  have h0 : (vl == 0) = false := by simpa using hvl
  obtain ⟨a, cap, rfl, hzl, hx, h⟩ := hv
  have L0 := hx y hy
  have LL := L0
  obtain ⟨-, -, n1, n2⟩ := LL
  have HT := Lib.hid (fun (r : Bool) (hr : r = true ↔ vl ∈ y.t) (W : World) (L : Pt.Lies W y) => contains_any (.slice y.ta y.t.length y.tc) y.t vl r hr n1 W L.1)
  have HM := Lib.hid (fun (r : Bool) (hr : r = true ↔ vl ∈ y.t ∨ vl ∈ y.p) (W : World) (L : Pt.Lies W y) => member_any y.d (.slice y.ta y.t.length y.tc) (.slice y.pa y.p.length y.pc) y.t y.p vl r hr n1 n2 W L.1 L.2.1)
  have HE := Lib.hid (fun (r : Bool) (hr : r = true ↔ Good3 dst src false 0 0 ty data) (W : World) => encodes_is dst src data false 0 0 ty r hz hr W)
  have HL := Lib.hid L0
  unfold fr portOf Pt.val at HK
  unfold fr
  clear hA hz hx h hy hvl L0 n1 n2
  rcases hu with ⟨h1, rfl, rfl⟩ | ⟨h1, h2, rfl, rfl⟩ | ⟨h1, h2, h3, rfl, rfl⟩ | ⟨h1, h2, h3, rfl, rfl⟩
  · have HT2 := Lib.hid (HT.out true (iff_of_true rfl h1))
    clear h1 HT HM HE
    go_enter Tryz.func184, Tryz.ntmps184
    go_wp2_with (first | ((with_reducible refine HK.out.mono ?_); rintro e w1 ⟨rfl, g1⟩; have b1 := bstep NB g1; obtain ⟨y1, c0, c1, c2, c3, c4, c5, c6, cf⟩ := (N7.below g1).below (bbox1 w1 (.cells #[.int .i64 y.d, .slice y.ta y.t.length y.tc, .slice y.pa y.p.length y.pc] 69)); obtain ⟨z1, m0, m1, m2, mf⟩ := Box3.new w1 (.int .i64 y.d) (.slice y.ta y.t.length y.tc) (.slice y.pa y.p.length y.pc) 69; obtain ⟨z3, p0, p1, p2, p3, p4, p5, p6, pf⟩ := (N3.below g1).below (bbox1 w1 (.cells #[.int .i64 y.d, .slice y.ta y.t.length y.tc, .slice y.pa y.p.length y.pc] 69))) | ((with_reducible refine (HT2.out _ (HL.out.below (ball b1 _))).mono ?_); rintro e w' ⟨rfl, rfl⟩))
    exact bodyPost_ret (v := .tuple #[fr dst src true vl pr ty data, .int .i64 0]) (by simp [fr, results, Tryz.results184, go_sem, p0, p1, p2, p3, p4, p5, p6]) rfl ⟨rfl, by (repeat (with_reducible refine Below.setCell ?_ (by simp) _)); exact ball b1 _⟩
  · have HT2 := Lib.hid (HT.out false (iff_of_false (by decide) h1))
    have HM2 := Lib.hid (HM.out false (iff_of_false (by decide) (by rintro (q | q); exact h1 q; exact h2 q)))
    clear h1 h2 HT HM HE
    go_enter Tryz.func184, Tryz.ntmps184
    go_wp2_with (first | ((with_reducible refine HK.out.mono ?_); rintro e w1 ⟨rfl, g1⟩; have b1 := bstep NB g1; obtain ⟨y1, c0, c1, c2, c3, c4, c5, c6, cf⟩ := (N7.below g1).below (bbox1 w1 (.cells #[.int .i64 y.d, .slice y.ta y.t.length y.tc, .slice y.pa y.p.length y.pc] 69)); obtain ⟨z1, m0, m1, m2, mf⟩ := Box3.new w1 (.int .i64 y.d) (.slice y.ta y.t.length y.tc) (.slice y.pa y.p.length y.pc) 69) | ((with_reducible refine (HT2.out _ (HL.out.below (ball b1 _))).mono ?_); rintro e w' ⟨rfl, rfl⟩) | ((with_reducible refine (HM2.out _ (HL.out.below (ball b1 _))).mono ?_); rintro e w2 ⟨rfl, g2⟩; have b2 := bstep (ball b1 _) g2; obtain ⟨z3, p0, p1, p2, p3, p4, p5, p6, pf⟩ := ((N3.below g1).below (bbox1 _ _)).below g2))
    exact bodyPost_ret (v := .tuple #[zeroFr, .int .i64 6]) (by simp [zeroFr, results, Tryz.results184, go_sem, p0, p1, p2, p3, p4, p5, p6]) rfl ⟨rfl, by (repeat (with_reducible refine Below.setCell ?_ (by simp) _)); exact b2⟩
  · have HT2 := Lib.hid (HT.out false (iff_of_false (by decide) h1))
    have HM2 := Lib.hid (HM.out true (iff_of_true rfl (.inr h2)))
    have HE2 := Lib.hid (HE.out false (iff_of_false (by decide) h3))
    clear h1 h2 h3 HT HM HE
    go_enter Tryz.func184, Tryz.ntmps184
    go_wp2_with (first | ((with_reducible refine HK.out.mono ?_); rintro e w1 ⟨rfl, g1⟩; have b1 := bstep NB g1; obtain ⟨y1, c0, c1, c2, c3, c4, c5, c6, cf⟩ := (N7.below g1).below (bbox1 w1 (.cells #[.int .i64 y.d, .slice y.ta y.t.length y.tc, .slice y.pa y.p.length y.pc] 69)); obtain ⟨z1, m0, m1, m2, mf⟩ := Box3.new w1 (.int .i64 y.d) (.slice y.ta y.t.length y.tc) (.slice y.pa y.p.length y.pc) 69) | ((with_reducible refine (HT2.out _ (HL.out.below (ball b1 _))).mono ?_); rintro e w' ⟨rfl, rfl⟩) | ((with_reducible refine (HM2.out _ (HL.out.below (ball b1 _))).mono ?_); rintro e w2 ⟨rfl, g2⟩; have b2 := bstep (ball b1 _) g2; have S3 := ((N7.below g1).below (bbox1 w1 (.cells #[.int .i64 y.d, .slice y.ta y.t.length y.tc, .slice y.pa y.p.length y.pc] 69))).below g2; have S4 := S3.strip (x2 := .bool false) (x3 := .int .i64 0) (x4 := .int .i64 0); have hs1 := b1.size; have hs2 := g1.size; have R4 := (((((N3.below g1).below (bbox1 w1 (.cells #[.int .i64 y.d, .slice y.ta y.t.length y.tc, .slice y.pa y.p.length y.pc] 69))).below g2).put (c := w.heap.size) (o := 2) (x := .bool false) (by omega)).put (c := w.heap.size) (o := 3) (x := .int .i64 0) (by omega)).put (c := w.heap.size) (o := 4) (x := .int .i64 0) (by omega); have b4 := ((b2.setCell (p := ⟨w.heap.size, 2, none⟩) (Nat.le_refl _) (.bool false)).setCell (p := ⟨w.heap.size, 3, none⟩) (Nat.le_refl _) (.int .i64 0)).setCell (p := ⟨w.heap.size, 4, none⟩) (Nat.le_refl _) (.int .i64 0); obtain ⟨y2, k0, k1, k2, k3, k4, k5, k6, kf⟩ := S3; obtain ⟨y4, r0, r1, r2, r3, r4, r5, r6, rf⟩ := S4) | ((with_reducible refine (HE2.out _).mono ?_); rintro e w5 ⟨rfl, g5⟩; have b5 := bstep b4 g5; obtain ⟨z3, p0, p1, p2, p3, p4, p5, p6, pf⟩ := R4.below g5; obtain ⟨y6, f0, f1, f2, f3, f4, f5, f6, ff⟩ := (show Box7 _ w.heap.size _ _ _ _ _ _ _ from ⟨y4, r0, r1, r2, r3, r4, r5, r6, rf⟩).below g5))
    exact bodyPost_ret (v := .tuple #[zeroFr, .int .i64 6]) (by simp [zeroFr, results, Tryz.results184, go_sem, p0, p1, p2, p3, p4, p5, p6]) rfl ⟨rfl, by (repeat (with_reducible refine Below.setCell ?_ (by simp) _)); exact b5⟩
  · have HT2 := Lib.hid (HT.out false (iff_of_false (by decide) h1))
    have HM2 := Lib.hid (HM.out true (iff_of_true rfl (.inr h2)))
    have HE2 := Lib.hid (HE.out true (iff_of_true rfl h3))
    clear h1 h2 h3 HT HM HE
    go_enter Tryz.func184, Tryz.ntmps184
    go_wp2_with (first | ((with_reducible refine HK.out.mono ?_); rintro e w1 ⟨rfl, g1⟩; have b1 := bstep NB g1; obtain ⟨y1, c0, c1, c2, c3, c4, c5, c6, cf⟩ := (N7.below g1).below (bbox1 w1 (.cells #[.int .i64 y.d, .slice y.ta y.t.length y.tc, .slice y.pa y.p.length y.pc] 69)); obtain ⟨z1, m0, m1, m2, mf⟩ := Box3.new w1 (.int .i64 y.d) (.slice y.ta y.t.length y.tc) (.slice y.pa y.p.length y.pc) 69) | ((with_reducible refine (HT2.out _ (HL.out.below (ball b1 _))).mono ?_); rintro e w' ⟨rfl, rfl⟩) | ((with_reducible refine (HM2.out _ (HL.out.below (ball b1 _))).mono ?_); rintro e w2 ⟨rfl, g2⟩; have b2 := bstep (ball b1 _) g2; have S3 := ((N7.below g1).below (bbox1 w1 (.cells #[.int .i64 y.d, .slice y.ta y.t.length y.tc, .slice y.pa y.p.length y.pc] 69))).below g2; have S4 := S3.strip (x2 := .bool false) (x3 := .int .i64 0) (x4 := .int .i64 0); have hs1 := b1.size; have hs2 := g1.size; have R4 := (((((N3.below g1).below (bbox1 w1 (.cells #[.int .i64 y.d, .slice y.ta y.t.length y.tc, .slice y.pa y.p.length y.pc] 69))).below g2).put (c := w.heap.size) (o := 2) (x := .bool false) (by omega)).put (c := w.heap.size) (o := 3) (x := .int .i64 0) (by omega)).put (c := w.heap.size) (o := 4) (x := .int .i64 0) (by omega); have b4 := ((b2.setCell (p := ⟨w.heap.size, 2, none⟩) (Nat.le_refl _) (.bool false)).setCell (p := ⟨w.heap.size, 3, none⟩) (Nat.le_refl _) (.int .i64 0)).setCell (p := ⟨w.heap.size, 4, none⟩) (Nat.le_refl _) (.int .i64 0); obtain ⟨y2, k0, k1, k2, k3, k4, k5, k6, kf⟩ := S3; obtain ⟨y4, r0, r1, r2, r3, r4, r5, r6, rf⟩ := S4) | ((with_reducible refine (HE2.out _).mono ?_); rintro e w5 ⟨rfl, g5⟩; have b5 := bstep b4 g5; obtain ⟨z3, p0, p1, p2, p3, p4, p5, p6, pf⟩ := R4.below g5; obtain ⟨y6, f0, f1, f2, f3, f4, f5, f6, ff⟩ := (show Box7 _ w.heap.size _ _ _ _ _ _ _ from ⟨y4, r0, r1, r2, r3, r4, r5, r6, rf⟩).below g5))
    exact bodyPost_ret (v := .tuple #[fr dst src false 0 0 ty data, .int .i64 0]) (by simp [fr, results, Tryz.results184, go_sem, p0, p1, p2, p3, p4, p5, p6]) rfl ⟨rfl, by (repeat (with_reducible refine Below.setCell ?_ (by simp) _)); exact b5⟩
end Go.Proofs.YticdmepplfgdiaaGreatDoor
end
