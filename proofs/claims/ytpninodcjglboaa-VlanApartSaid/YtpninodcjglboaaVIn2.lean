/-
  What vlan.In computes. Conditions: lists' lengths lie well within an int.
-/
import Derived.Test.YtpninodcjglboaaVIn
import Derived.Deep.RegionWith
namespace Go.Proofs.Ytpninodcjglboaa
open Go.RowKit

/-- the VLAN of a frame that came in, or why there is none -/
def InCase (ps : List Pt) (q : Int) (dst src : ByteArray) (tg : Bool) (vl pr ty : Int) (data : ByteArray) (v : Value) (e : Int) : Prop :=
  (∃ c, c ≠ 0 ∧ Asked ps q (Good3 dst src tg vl pr ty data) c none ∧ v = zeroFr ∧ e = c) ∨
  (∃ y n, Asked ps q (Good3 dst src tg vl pr ty data) 0 (some y) ∧ y ∈ ps ∧ n = (if vl = 0 then y.d else vl) ∧ (((n = 0 ∨ ¬ (n ∈ y.t ∨ n ∈ y.p)) ∧ v = zeroFr ∧ e = 6) ∨ ((n ≠ 0 ∧ (n ∈ y.t ∨ n ∈ y.p)) ∧ v = fr dst src true n pr ty data ∧ e = 0)))

theorem Box7.tag {W : World} {b : Nat} {v0 v1 v2 v3 v4 v5 v6 x2 x3 : Value} (h : Box7 W b v0 v1 v2 v3 v4 v5 v6) : Box7 ((W.setCell ⟨b, 2, none⟩ x2).setCell ⟨b, 3, none⟩ x3) b v0 v1 x2 x3 v4 v5 v6 := by
  obtain ⟨z, c0, c1, c2, c3, c4, c5, c6, cf⟩ := h
  have same : ∀ {W : World} {k : Nat} {u x : Value}, W.cell? ⟨b, k, none⟩ = some u → (W.setCell ⟨b, k, none⟩ x).cell? ⟨b, k, none⟩ = some x := fun h => World.cell?_setCell_same _ _ _ h
  have far : ∀ {W : World} {j k : Nat} {u x : Value}, j ≠ k → W.cell? ⟨b, k, none⟩ = some u → (W.setCell ⟨b, j, none⟩ x).cell? ⟨b, k, none⟩ = some u := fun hn h => (World.cell?_setCell_other _ _ _ _ (by intro e; cases e; exact hn rfl)).trans h
  refine ⟨by simpa using z, far (by decide) (far (by decide) c0), far (by decide) (far (by decide) c1), far (by decide) (same c2), same (far (by decide) c3), far (by decide) (far (by decide) c4), far (by decide) (far (by decide) c5), far (by decide) (far (by decide) c6), fun k => by simpa using cf k⟩

theorem Box3.drew {W : World} {b : Nat} {v0 v1 v2 : Value} (h : Box3 W b v0 v1 v2) : Box3 W.drew b v0 v1 v2 := h
theorem Box3.put {W : World} {b c o : Nat} {v0 v1 v2 x : Value} (h : Box3 W b v0 v1 v2) (hc : b ≠ c) : Box3 (W.setCell ⟨c, o, none⟩ x) b v0 v1 v2 := by
  obtain ⟨z, c0, c1, c2, cf⟩ := h
  have far : ∀ k, (W.setCell ⟨c, o, none⟩ x).cell? ⟨b, k, none⟩ = W.cell? ⟨b, k, none⟩ := fun k => World.cell?_setCell_other W _ _ _ (by intro e; cases e; exact hc rfl)
  exact ⟨by simpa using z, (far 0).trans c0, (far 1).trans c1, (far 2).trans c2, fun k => by rw [World.frozen?_setCell]; exact cf k⟩

/-- two frames' boxes -/
theorem new77 (w : World) (u0 u1 u2 u3 u4 u5 u6 z0 z1 z2 z3 z4 z5 z6 : Value) (t t2 : TypeId) :
    Box7 ((w.alloc (.cells #[u0, u1, u2, u3, u4, u5, u6] t)).alloc (.cells #[z0, z1, z2, z3, z4, z5, z6] t2)) (w.heap.size + 1) z0 z1 z2 z3 z4 z5 z6 ∧ Box7 ((w.alloc (.cells #[u0, u1, u2, u3, u4, u5, u6] t)).alloc (.cells #[z0, z1, z2, z3, z4, z5, z6] t2)) w.heap.size u0 u1 u2 u3 u4 u5 u6 ∧
      Below w.heap.size w ((w.alloc (.cells #[u0, u1, u2, u3, u4, u5, u6] t)).alloc (.cells #[z0, z1, z2, z3, z4, z5, z6] t2)) := by
  have h := Box7.new (w.alloc (.cells #[u0, u1, u2, u3, u4, u5, u6] t)) z0 z1 z2 z3 z4 z5 z6 t2
  rw [World.size_alloc] at h
  exact ⟨h, (Box7.new w u0 u1 u2 u3 u4 u5 u6 t).below (bbox1 _ _), ball (bbox1 _ _) _⟩

set_option maxRecDepth 100000 in
set_option maxHeartbeats 2000000 in
theorem in_not (v : Value) (ps : List Pt) (q : Int) (dst src data : ByteArray) (tg : Bool) (vl pr ty c : Int) (hc : c ≠ 0) (hz : data.size ≤ 140737488351232) (hA : Asked ps q (Good3 dst src tg vl pr ty data) c none) (w : World) (hv : Ports w v ps) :
    Calls Try.prog 10 #[v, .int .i64 q, fr dst src tg vl pr ty data] w fun e w' => e = .returned (.tuple #[zeroFr, .int .i64 c]) ∧ Below w.heap.size w w' := by
  obtain ⟨N3, N7, NB⟩ := new77 w (.string dst) (.string src) (.bool tg) (.int .i64 vl) (.int .i64 pr) (.int .i64 ty) (.string data) (.string ⟨#[]⟩) (.string ⟨#[]⟩) (.bool false) (.int .i64 0) (.int .i64 0) (.int .i64 0) (.string ⟨#[]⟩) 25 25
  have HK := Lib.hid (asked_any v ps q dst src data tg vl pr ty c none hz hA _ (hv.below NB))
  have hc2 : (c != 0) = true := by simpa using hc
  obtain ⟨a, cap, rfl, -⟩ := hv
  unfold fr portOf zeroPort at HK
  unfold fr
  clear hA hc hz
  go_enter Try.func10, Try.ntmps10
  go_wp2_with ((with_reducible refine HK.out.mono ?_); rintro e w1 ⟨rfl, g1⟩; have b1 := bstep NB g1; obtain ⟨z3, p0, p1, p2, p3, p4, p5, p6, pf⟩ := (N3.below g1).below (bbox1 w1 (.cells #[.int .i64 0, .slice none 0 0, .slice none 0 0] 34)))
  exact bodyPost_ret (v := .tuple #[zeroFr, .int .i64 c]) (by simp [zeroFr, results, Try.results10, go_sem, p0, p1, p2, p3, p4, p5, p6]) rfl ⟨rfl, by (repeat (with_reducible refine Below.setCell ?_ (by simp) _)); exact ball b1 _⟩

set_option maxRecDepth 100000 in
set_option maxHeartbeats 2000000 in
theorem in_had (v : Value) (ps : List Pt) (q : Int) (dst src data : ByteArray) (vl pr ty e0 : Int) (y : Pt) (r : Bool) (u : Value) (hz : data.size ≤ 140737488351232) (hA : Asked ps q (Good3 dst src true vl pr ty data) 0 (some y)) (hy : y ∈ ps) (hvl : vl ≠ 0) (hr : r = true ↔ vl ∈ y.t ∨ vl ∈ y.p)
    (hu : (r = false ∧ u = zeroFr ∧ e0 = 6) ∨ (r = true ∧ u = fr dst src true vl pr ty data ∧ e0 = 0)) (w : World) (hv : Ports w v ps) :
    Calls Try.prog 10 #[v, .int .i64 q, fr dst src true vl pr ty data] w fun e w' => e = .returned (.tuple #[u, .int .i64 e0]) ∧ Below w.heap.size w w' := by
  obtain ⟨N3, N7, NB⟩ := new77 w (.string dst) (.string src) (.bool true) (.int .i64 vl) (.int .i64 pr) (.int .i64 ty) (.string data) (.string ⟨#[]⟩) (.string ⟨#[]⟩) (.bool false) (.int .i64 0) (.int .i64 0) (.int .i64 0) (.string ⟨#[]⟩) 25 25
  have HK := Lib.hid (asked_any v ps q dst src data true vl pr ty 0 (some y) hz hA _ (hv.below NB))
  have h0 : (vl == 0) = false := by simpa using hvl
  obtain ⟨a, cap, rfl, hzl, hx, h⟩ := hv
  have L0 := hx y hy
  have LL := L0
  obtain ⟨-, -, n1, n2⟩ := LL
  have HM := Lib.hid (fun (W : World) (L : Pt.Lies W y) => member_any y.d (.slice y.ta y.t.length y.tc) (.slice y.pa y.p.length y.pc) y.t y.p vl r hr n1 n2 W L.1 L.2.1)
  have HL := Lib.hid L0
  unfold fr portOf Pt.val at HK
  unfold fr
  clear hA hz hx h hy hr hvl L0 n1 n2
  rcases hu with ⟨rfl, rfl, rfl⟩ | ⟨rfl, rfl, rfl⟩
  · go_enter Try.func10, Try.ntmps10
    go_wp2_with (first | ((with_reducible refine HK.out.mono ?_); rintro e w1 ⟨rfl, g1⟩; have b1 := bstep NB g1; obtain ⟨y1, c0, c1, c2, c3, c4, c5, c6, cf⟩ := (N7.below g1).below (bbox1 w1 (.cells #[.int .i64 y.d, .slice y.ta y.t.length y.tc, .slice y.pa y.p.length y.pc] 34))) | ((with_reducible refine (HM.out _ (HL.out.below (ball b1 _))).mono ?_); rintro e w2 ⟨rfl, g2⟩; have b2 := bstep (ball b1 _) g2; obtain ⟨z3, p0, p1, p2, p3, p4, p5, p6, pf⟩ := ((N3.below g1).below (bbox1 _ _)).below g2))
    exact bodyPost_ret (v := .tuple #[zeroFr, .int .i64 6]) (by simp [zeroFr, results, Try.results10, go_sem, p0, p1, p2, p3, p4, p5, p6]) rfl ⟨rfl, by (repeat (with_reducible refine Below.setCell ?_ (by simp) _)); exact b2⟩
  · go_enter Try.func10, Try.ntmps10
    go_wp2_with (first | ((with_reducible refine HK.out.mono ?_); rintro e w1 ⟨rfl, g1⟩; have b1 := bstep NB g1; obtain ⟨y1, c0, c1, c2, c3, c4, c5, c6, cf⟩ := (N7.below g1).below (bbox1 w1 (.cells #[.int .i64 y.d, .slice y.ta y.t.length y.tc, .slice y.pa y.p.length y.pc] 34))) | ((with_reducible refine (HM.out _ (HL.out.below (ball b1 _))).mono ?_); rintro e w2 ⟨rfl, g2⟩; have b2 := bstep (ball b1 _) g2; obtain ⟨z3, p0, p1, p2, p3, p4, p5, p6, pf⟩ := ((N3.below g1).below (bbox1 _ _)).below g2; obtain ⟨y2, d0, d1, d2, d3, d4, d5, d6, df⟩ := ((N7.below g1).below (bbox1 _ _)).below g2))
    exact bodyPost_ret (v := .tuple #[fr dst src true vl pr ty data, .int .i64 0]) (by simp [fr, results, Try.results10, go_sem, p0, p1, p2, p3, p4, p5, p6]) rfl ⟨rfl, by (repeat (with_reducible refine Below.setCell ?_ (by simp) _)); exact b2⟩

set_option maxRecDepth 100000 in
set_option maxHeartbeats 2000000 in
theorem in_new (v : Value) (ps : List Pt) (q : Int) (dst src data : ByteArray) (tg : Bool) (pr ty e0 : Int) (y : Pt) (r : Bool) (u : Value) (hz : data.size ≤ 140737488351232) (hA : Asked ps q (Good3 dst src tg 0 pr ty data) 0 (some y)) (hy : y ∈ ps) (hr : r = true ↔ y.d ∈ y.t ∨ y.d ∈ y.p)
    (hu : (y.d = 0 ∧ u = zeroFr ∧ e0 = 6) ∨ (y.d ≠ 0 ∧ r = false ∧ u = zeroFr ∧ e0 = 6) ∨ (y.d ≠ 0 ∧ r = true ∧ u = fr dst src true y.d pr ty data ∧ e0 = 0)) (w : World) (hv : Ports w v ps) :
    Calls Try.prog 10 #[v, .int .i64 q, fr dst src tg 0 pr ty data] w fun e w' => e = .returned (.tuple #[u, .int .i64 e0]) ∧ Below w.heap.size w w' := by
  obtain ⟨N3, N7, NB⟩ := new77 w (.string dst) (.string src) (.bool tg) (.int .i64 0) (.int .i64 pr) (.int .i64 ty) (.string data) (.string ⟨#[]⟩) (.string ⟨#[]⟩) (.bool false) (.int .i64 0) (.int .i64 0) (.int .i64 0) (.string ⟨#[]⟩) 25 25
  have HK := Lib.hid (asked_any v ps q dst src data tg 0 pr ty 0 (some y) hz hA _ (hv.below NB))
  obtain ⟨a, cap, rfl, hzl, hx, h⟩ := hv
  have L0 := hx y hy
  have LL := L0
  obtain ⟨-, -, n1, n2⟩ := LL
  have HM := Lib.hid (fun (W : World) (L : Pt.Lies W y) => member_any y.d (.slice y.ta y.t.length y.tc) (.slice y.pa y.p.length y.pc) y.t y.p y.d r hr n1 n2 W L.1 L.2.1)
  have HL := Lib.hid L0
  unfold fr portOf Pt.val at HK
  unfold fr
  clear hA hz hx h hy hr L0 n1 n2
  have hu2 : ((y.d == 0) = true ∧ u = zeroFr ∧ e0 = 6) ∨ ((y.d == 0) = false ∧ r = false ∧ u = zeroFr ∧ e0 = 6) ∨ ((y.d == 0) = false ∧ r = true ∧ u = fr dst src true y.d pr ty data ∧ e0 = 0) := by
    rw [beq_iff_eq, beq_eq_false_iff_ne]; exact hu
  clear hu
  rcases hu2 with ⟨hd, rfl, rfl⟩ | ⟨hd, rfl, rfl, rfl⟩ | ⟨hd, rfl, rfl, rfl⟩
  · go_enter Try.func10, Try.ntmps10
    go_wp2_with ((with_reducible refine HK.out.mono ?_); rintro e w1 ⟨rfl, g1⟩; have b1 := bstep NB g1; have F1 := (N7.below g1).below (bbox1 w1 (.cells #[.int .i64 y.d, .slice y.ta y.t.length y.tc, .slice y.pa y.p.length y.pc] 34)); have F0 := F1; obtain ⟨y1, c0, c1, c2, c3, c4, c5, c6, cf⟩ := F0)
    have hs1 := b1.size
    have hs2 := g1.size
    simp only [World.size_alloc] at hs2
    have W5e : ∃ W5, W5 = (((w1.alloc (.cells #[.int .i64 y.d, .slice y.ta y.t.length y.tc, .slice y.pa y.p.length y.pc] 34)).setCell ⟨w.heap.size, 2, none⟩ (.bool true)).setCell ⟨w.heap.size, 3, none⟩ (.int .i64 y.d)).drew := ⟨_, rfl⟩
    have F5 := (F1.tag (x2 := .bool true) (x3 := .int .i64 y.d)).drew
    have P5 := ((((N3.below g1).below (bbox1 w1 (.cells #[.int .i64 y.d, .slice y.ta y.t.length y.tc, .slice y.pa y.p.length y.pc] 34))).put (c := w.heap.size) (o := 2) (x := .bool true) (by omega)).put (c := w.heap.size) (o := 3) (x := .int .i64 y.d) (by omega)).drew
    have Q5 := (((Box3.new w1 (.int .i64 y.d) (.slice y.ta y.t.length y.tc) (.slice y.pa y.p.length y.pc) 34).put (c := w.heap.size) (o := 2) (x := .bool true) (by omega)).put (c := w.heap.size) (o := 3) (x := .int .i64 y.d) (by omega)).drew
    have B5 := (((ball b1 (.cells #[.int .i64 y.d, .slice y.ta y.t.length y.tc, .slice y.pa y.p.length y.pc] 34)).setCell (p := ⟨w.heap.size, 2, none⟩) (Nat.le_refl _) (.bool true)).setCell (p := ⟨w.heap.size, 3, none⟩) (Nat.le_refl _) (.int .i64 y.d)).drew
    obtain ⟨W5, e5⟩ := W5e
    go_region_with (fail)
    all_goals
      rw [← e5] at F5 P5 Q5 B5 ⊢
      clear e5 c0 c1 c2 c3 c4 c5 c6 cf F1
      obtain ⟨y5, d0, d1, d2, d3, d4, d5, d6, df⟩ := F5
      obtain ⟨z5, m0, m1, m2, mf⟩ := Q5
      obtain ⟨z3, p0, p1, p2, p3, p4, p5, p6, pf⟩ := P5
      go_wp2
      exact bodyPost_ret (v := .tuple #[zeroFr, .int .i64 6]) (by simp [zeroFr, results, Try.results10, go_sem, p0, p1, p2, p3, p4, p5, p6]) rfl ⟨rfl, by (repeat (with_reducible refine Below.setCell ?_ (by simp) _)); exact B5⟩
  · go_enter Try.func10, Try.ntmps10
    go_wp2_with ((with_reducible refine HK.out.mono ?_); rintro e w1 ⟨rfl, g1⟩; have b1 := bstep NB g1; have F1 := (N7.below g1).below (bbox1 w1 (.cells #[.int .i64 y.d, .slice y.ta y.t.length y.tc, .slice y.pa y.p.length y.pc] 34)); have F0 := F1; obtain ⟨y1, c0, c1, c2, c3, c4, c5, c6, cf⟩ := F0)
    have hs1 := b1.size
    have hs2 := g1.size
    simp only [World.size_alloc] at hs2
    have W5e : ∃ W5, W5 = (((w1.alloc (.cells #[.int .i64 y.d, .slice y.ta y.t.length y.tc, .slice y.pa y.p.length y.pc] 34)).setCell ⟨w.heap.size, 2, none⟩ (.bool true)).setCell ⟨w.heap.size, 3, none⟩ (.int .i64 y.d)).drew := ⟨_, rfl⟩
    have F5 := (F1.tag (x2 := .bool true) (x3 := .int .i64 y.d)).drew
    have P5 := ((((N3.below g1).below (bbox1 w1 (.cells #[.int .i64 y.d, .slice y.ta y.t.length y.tc, .slice y.pa y.p.length y.pc] 34))).put (c := w.heap.size) (o := 2) (x := .bool true) (by omega)).put (c := w.heap.size) (o := 3) (x := .int .i64 y.d) (by omega)).drew
    have Q5 := (((Box3.new w1 (.int .i64 y.d) (.slice y.ta y.t.length y.tc) (.slice y.pa y.p.length y.pc) 34).put (c := w.heap.size) (o := 2) (x := .bool true) (by omega)).put (c := w.heap.size) (o := 3) (x := .int .i64 y.d) (by omega)).drew
    have B5 := (((ball b1 (.cells #[.int .i64 y.d, .slice y.ta y.t.length y.tc, .slice y.pa y.p.length y.pc] 34)).setCell (p := ⟨w.heap.size, 2, none⟩) (Nat.le_refl _) (.bool true)).setCell (p := ⟨w.heap.size, 3, none⟩) (Nat.le_refl _) (.int .i64 y.d)).drew
    obtain ⟨W5, e5⟩ := W5e
    go_region_with (fail)
    all_goals
      rw [← e5] at F5 P5 Q5 B5 ⊢
      clear e5 c0 c1 c2 c3 c4 c5 c6 cf F1
      obtain ⟨y5, d0, d1, d2, d3, d4, d5, d6, df⟩ := F5
      obtain ⟨z5, m0, m1, m2, mf⟩ := Q5
      go_wp2_with ((with_reducible refine (HM.out _ (HL.out.below B5)).mono ?_); rintro e w2 ⟨rfl, g2⟩; have b2 := bstep B5 g2; obtain ⟨z3, p0, p1, p2, p3, p4, p5, p6, pf⟩ := P5.below g2)
      exact bodyPost_ret (v := .tuple #[zeroFr, .int .i64 6]) (by simp [zeroFr, results, Try.results10, go_sem, p0, p1, p2, p3, p4, p5, p6]) rfl ⟨rfl, by (repeat (with_reducible refine Below.setCell ?_ (by simp) _)); exact b2⟩
  · go_enter Try.func10, Try.ntmps10
    go_wp2_with ((with_reducible refine HK.out.mono ?_); rintro e w1 ⟨rfl, g1⟩; have b1 := bstep NB g1; have F1 := (N7.below g1).below (bbox1 w1 (.cells #[.int .i64 y.d, .slice y.ta y.t.length y.tc, .slice y.pa y.p.length y.pc] 34)); have F0 := F1; obtain ⟨y1, c0, c1, c2, c3, c4, c5, c6, cf⟩ := F0)
    have hs1 := b1.size
    have hs2 := g1.size
    simp only [World.size_alloc] at hs2
    have W5e : ∃ W5, W5 = (((w1.alloc (.cells #[.int .i64 y.d, .slice y.ta y.t.length y.tc, .slice y.pa y.p.length y.pc] 34)).setCell ⟨w.heap.size, 2, none⟩ (.bool true)).setCell ⟨w.heap.size, 3, none⟩ (.int .i64 y.d)).drew := ⟨_, rfl⟩
    have F5 := (F1.tag (x2 := .bool true) (x3 := .int .i64 y.d)).drew
    have P5 := ((((N3.below g1).below (bbox1 w1 (.cells #[.int .i64 y.d, .slice y.ta y.t.length y.tc, .slice y.pa y.p.length y.pc] 34))).put (c := w.heap.size) (o := 2) (x := .bool true) (by omega)).put (c := w.heap.size) (o := 3) (x := .int .i64 y.d) (by omega)).drew
    have Q5 := (((Box3.new w1 (.int .i64 y.d) (.slice y.ta y.t.length y.tc) (.slice y.pa y.p.length y.pc) 34).put (c := w.heap.size) (o := 2) (x := .bool true) (by omega)).put (c := w.heap.size) (o := 3) (x := .int .i64 y.d) (by omega)).drew
    have B5 := (((ball b1 (.cells #[.int .i64 y.d, .slice y.ta y.t.length y.tc, .slice y.pa y.p.length y.pc] 34)).setCell (p := ⟨w.heap.size, 2, none⟩) (Nat.le_refl _) (.bool true)).setCell (p := ⟨w.heap.size, 3, none⟩) (Nat.le_refl _) (.int .i64 y.d)).drew
    obtain ⟨W5, e5⟩ := W5e
    go_region_with (fail)
    all_goals
      rw [← e5] at F5 P5 Q5 B5 ⊢
      clear e5 c0 c1 c2 c3 c4 c5 c6 cf F1
      obtain ⟨y5, d0, d1, d2, d3, d4, d5, d6, df⟩ := F5
      obtain ⟨z5, m0, m1, m2, mf⟩ := Q5
      go_wp2_with ((with_reducible refine (HM.out _ (HL.out.below B5)).mono ?_); rintro e w2 ⟨rfl, g2⟩; have b2 := bstep B5 g2; obtain ⟨z3, p0, p1, p2, p3, p4, p5, p6, pf⟩ := P5.below g2; obtain ⟨y6, k0, k1, k2, k3, k4, k5, k6, kf⟩ := (show Box7 W5 w.heap.size _ _ _ _ _ _ _ from ⟨y5, d0, d1, d2, d3, d4, d5, d6, df⟩).below g2)
      exact bodyPost_ret (v := .tuple #[fr dst src true y.d pr ty data, .int .i64 0]) (by simp [fr, results, Try.results10, go_sem, p0, p1, p2, p3, p4, p5, p6]) rfl ⟨rfl, by (repeat (with_reducible refine Below.setCell ?_ (by simp) _)); exact b2⟩
end Go.Proofs.Ytpninodcjglboaa
