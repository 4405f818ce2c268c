/-
  What vlan.Out computes. Conditions: lists' lengths lie well within an int.
-/
import Derived.Test.YtpninodcjglboaaVIn2
namespace Go.Proofs.Ytpninodcjglboaa
open Go.RowKit

theorem Box7.strip {W : World} {b : Nat} {v0 v1 v2 v3 v4 v5 v6 x2 x3 x4 : Value} (h : Box7 W b v0 v1 v2 v3 v4 v5 v6) : Box7 (((W.setCell ⟨b, 2, none⟩ x2).setCell ⟨b, 3, none⟩ x3).setCell ⟨b, 4, none⟩ x4) b v0 v1 x2 x3 x4 v5 v6 := by
  obtain ⟨z, c0, c1, c2, c3, c4, c5, c6, cf⟩ := h.tag (x2 := x2) (x3 := x3)
  have same : ∀ {W : World} {k : Nat} {u x : Value}, W.cell? ⟨b, k, none⟩ = some u → (W.setCell ⟨b, k, none⟩ x).cell? ⟨b, k, none⟩ = some x := fun h => World.cell?_setCell_same _ _ _ h
  have far : ∀ {W : World} {j k : Nat} {u x : Value}, j ≠ k → W.cell? ⟨b, k, none⟩ = some u → (W.setCell ⟨b, j, none⟩ x).cell? ⟨b, k, none⟩ = some u := fun hn h => (World.cell?_setCell_other _ _ _ _ (by intro e; cases e; exact hn rfl)).trans h
  exact ⟨by simpa using z, far (by decide) c0, far (by decide) c1, far (by decide) c2, far (by decide) c3, same c4, far (by decide) c5, far (by decide) c6, fun k => by rw [World.frozen?_setCell]; exact cf k⟩

/-- how a frame goes out, or why not -/
def OutCase (ps : List Pt) (q : Int) (dst src : ByteArray) (tg : Bool) (vl pr ty : Int) (data : ByteArray) (v : Value) (e : Int) : Prop :=
  (∃ c, c ≠ 0 ∧ Asked ps q (Good3 dst src tg vl pr ty data) c none ∧ v = zeroFr ∧ e = c) ∨
  (∃ y, Asked ps q (Good3 dst src tg vl pr ty data) 0 (some y) ∧ y ∈ ps ∧ vl = 0 ∧ v = zeroFr ∧ e = 1) ∨
  (∃ y, Asked ps q (Good3 dst src tg vl pr ty data) 0 (some y) ∧ y ∈ ps ∧ vl ≠ 0 ∧ tg = true ∧
    ((vl ∈ y.t ∧ v = fr dst src true vl pr ty data ∧ e = 0) ∨ (vl ∉ y.t ∧ vl ∉ y.p ∧ v = zeroFr ∧ e = 6) ∨
     (vl ∉ y.t ∧ vl ∈ y.p ∧ ¬ Good3 dst src false 0 0 ty data ∧ v = zeroFr ∧ e = 6) ∨ (vl ∉ y.t ∧ vl ∈ y.p ∧ Good3 dst src false 0 0 ty data ∧ v = fr dst src false 0 0 ty data ∧ e = 0)))

set_option maxRecDepth 100000 in
set_option maxHeartbeats 2000000 in
theorem out_not (v : Value) (ps : List Pt) (q : Int) (dst src data : ByteArray) (tg : Bool) (vl pr ty c : Int) (hc : c ≠ 0) (hz : data.size ≤ 140737488351232) (hA : Asked ps q (Good3 dst src tg vl pr ty data) c none) (w : World) (hv : Ports w v ps) :
    Calls Try.prog 12 #[v, .int .i64 q, fr dst src tg vl pr ty data] w fun e w' => e = .returned (.tuple #[zeroFr, .int .i64 c]) ∧ Below w.heap.size w w' := by
  obtain ⟨N3, N7, NB⟩ := new77 w (.string dst) (.string src) (.bool tg) (.int .i64 vl) (.int .i64 pr) (.int .i64 ty) (.string data) (.string ⟨#[]⟩) (.string ⟨#[]⟩) (.bool false) (.int .i64 0) (.int .i64 0) (.int .i64 0) (.string ⟨#[]⟩) 25 25
  have HK := Lib.hid (asked_any v ps q dst src data tg vl pr ty c none hz hA _ (hv.below NB))
  have hc2 : (c != 0) = true := by simpa using hc
  obtain ⟨a, cap, rfl, -⟩ := hv
  unfold fr portOf zeroPort at HK
  unfold fr
  clear hA hc hz
  go_enter Try.func12, Try.ntmps12
  go_wp2_with ((with_reducible refine HK.out.mono ?_); rintro e w1 ⟨rfl, g1⟩; have b1 := bstep NB g1; obtain ⟨z3, p0, p1, p2, p3, p4, p5, p6, pf⟩ := (N3.below g1).below (bbox1 w1 (.cells #[.int .i64 0, .slice none 0 0, .slice none 0 0] 34)))
  exact bodyPost_ret (v := .tuple #[zeroFr, .int .i64 c]) (by simp [zeroFr, results, Try.results12, go_sem, p0, p1, p2, p3, p4, p5, p6]) rfl ⟨rfl, by (repeat (with_reducible refine Below.setCell ?_ (by simp) _)); exact ball b1 _⟩

set_option maxRecDepth 100000 in
set_option maxHeartbeats 2000000 in
theorem out_zero (v : Value) (ps : List Pt) (q : Int) (dst src data : ByteArray) (tg : Bool) (pr ty : Int) (y : Pt) (hz : data.size ≤ 140737488351232) (hA : Asked ps q (Good3 dst src tg 0 pr ty data) 0 (some y)) (w : World) (hv : Ports w v ps) :
    Calls Try.prog 12 #[v, .int .i64 q, fr dst src tg 0 pr ty data] w fun e w' => e = .returned (.tuple #[zeroFr, .int .i64 1]) ∧ Below w.heap.size w w' := by
  obtain ⟨N3, N7, NB⟩ := new77 w (.string dst) (.string src) (.bool tg) (.int .i64 0) (.int .i64 pr) (.int .i64 ty) (.string data) (.string ⟨#[]⟩) (.string ⟨#[]⟩) (.bool false) (.int .i64 0) (.int .i64 0) (.int .i64 0) (.string ⟨#[]⟩) 25 25
  have HK := Lib.hid (asked_any v ps q dst src data tg 0 pr ty 0 (some y) hz hA _ (hv.below NB))
  obtain ⟨a, cap, rfl, -⟩ := hv
  unfold fr portOf Pt.val at HK
  unfold fr
  clear hA hz
  go_enter Try.func12, Try.ntmps12
  go_wp2_with ((with_reducible refine HK.out.mono ?_); rintro e w1 ⟨rfl, g1⟩; have b1 := bstep NB g1; obtain ⟨z3, p0, p1, p2, p3, p4, p5, p6, pf⟩ := (N3.below g1).below (bbox1 w1 (.cells #[.int .i64 y.d, .slice y.ta y.t.length y.tc, .slice y.pa y.p.length y.pc] 34)); obtain ⟨y1, c0, c1, c2, c3, c4, c5, c6, cf⟩ := (N7.below g1).below (bbox1 w1 (.cells #[.int .i64 y.d, .slice y.ta y.t.length y.tc, .slice y.pa y.p.length y.pc] 34)))
  exact bodyPost_ret (v := .tuple #[zeroFr, .int .i64 1]) (by simp [zeroFr, results, Try.results12, go_sem, p0, p1, p2, p3, p4, p5, p6]) rfl ⟨rfl, by (repeat (with_reducible refine Below.setCell ?_ (by simp) _)); exact ball b1 _⟩

set_option maxRecDepth 100000 in
set_option maxHeartbeats 4000000 in
theorem out_had (v : Value) (ps : List Pt) (q : Int) (dst src data : ByteArray) (vl pr ty e0 : Int) (y : Pt) (u : Value) (hz : data.size ≤ 140737488351232) (hA : Asked ps q (Good3 dst src true vl pr ty data) 0 (some y)) (hy : y ∈ ps) (hvl : vl ≠ 0)
    (hu : (vl ∈ y.t ∧ u = fr dst src true vl pr ty data ∧ e0 = 0) ∨ (vl ∉ y.t ∧ vl ∉ y.p ∧ u = zeroFr ∧ e0 = 6) ∨
     (vl ∉ y.t ∧ vl ∈ y.p ∧ ¬ Good3 dst src false 0 0 ty data ∧ u = zeroFr ∧ e0 = 6) ∨ (vl ∉ y.t ∧ vl ∈ y.p ∧ Good3 dst src false 0 0 ty data ∧ u = fr dst src false 0 0 ty data ∧ e0 = 0)) (w : World) (hv : Ports w v ps) :
    Calls Try.prog 12 #[v, .int .i64 q, fr dst src true vl pr ty data] w fun e w' => e = .returned (.tuple #[u, .int .i64 e0]) ∧ Below w.heap.size w w' := by
  obtain ⟨N3, N7, NB⟩ := new77 w (.string dst) (.string src) (.bool true) (.int .i64 vl) (.int .i64 pr) (.int .i64 ty) (.string data) (.string ⟨#[]⟩) (.string ⟨#[]⟩) (.bool false) (.int .i64 0) (.int .i64 0) (.int .i64 0) (.string ⟨#[]⟩) 25 25
  have HK := Lib.hid (asked_any v ps q dst src data true vl pr ty 0 (some y) hz hA _ (hv.below NB))
  have h0 : (vl == 0) = false := by simpa using hvl
  obtain ⟨a, cap, rfl, hzl, hx, h⟩ := hv
  have L0 := hx y hy
  have LL := L0
  obtain ⟨-, -, n1, n2⟩ := LL
  have HT := Lib.hid (fun (r : Bool) (hr : r = true ↔ vl ∈ y.t) (W : World) (L : Pt.Lies W y) => contains_any (.slice y.ta y.t.length y.tc) y.t vl r hr n1 W L.1)
  have HM := Lib.hid (fun (r : Bool) (hr : r = true ↔ vl ∈ y.t ∨ vl ∈ y.p) (W : World) (L : Pt.Lies W y) => member_any y.d (.slice y.ta y.t.length y.tc) (.slice y.pa y.p.length y.pc) y.t y.p vl r hr n1 n2 W L.1 L.2.1)
  have HE := Lib.hid (fun (r : Bool) (hr : r = true ↔ Good3 dst src false 0 0 ty data) (W : World) => encodes_is dst src data false 0 0 ty r hz hr W)
  have HL := Lib.hid L0
  unfold fr portOf Pt.val at HK
  unfold fr
  clear hA hz hx h hy hvl L0 n1 n2
  rcases hu with ⟨h1, rfl, rfl⟩ | ⟨h1, h2, rfl, rfl⟩ | ⟨h1, h2, h3, rfl, rfl⟩ | ⟨h1, h2, h3, rfl, rfl⟩
  · have HT2 := Lib.hid (HT.out true (iff_of_true rfl h1))
    clear h1 HT HM HE
    go_enter Try.func12, Try.ntmps12
    go_wp2_with (first | ((with_reducible refine HK.out.mono ?_); rintro e w1 ⟨rfl, g1⟩; have b1 := bstep NB g1; obtain ⟨y1, c0, c1, c2, c3, c4, c5, c6, cf⟩ := (N7.below g1).below (bbox1 w1 (.cells #[.int .i64 y.d, .slice y.ta y.t.length y.tc, .slice y.pa y.p.length y.pc] 34)); obtain ⟨z1, m0, m1, m2, mf⟩ := Box3.new w1 (.int .i64 y.d) (.slice y.ta y.t.length y.tc) (.slice y.pa y.p.length y.pc) 34; obtain ⟨z3, p0, p1, p2, p3, p4, p5, p6, pf⟩ := (N3.below g1).below (bbox1 w1 (.cells #[.int .i64 y.d, .slice y.ta y.t.length y.tc, .slice y.pa y.p.length y.pc] 34))) | ((with_reducible refine (HT2.out _ (HL.out.below (ball b1 _))).mono ?_); rintro e w' ⟨rfl, rfl⟩))
    exact bodyPost_ret (v := .tuple #[fr dst src true vl pr ty data, .int .i64 0]) (by simp [fr, results, Try.results12, go_sem, p0, p1, p2, p3, p4, p5, p6]) rfl ⟨rfl, by (repeat (with_reducible refine Below.setCell ?_ (by simp) _)); exact ball b1 _⟩
  · have HT2 := Lib.hid (HT.out false (iff_of_false (by decide) h1))
    have HM2 := Lib.hid (HM.out false (iff_of_false (by decide) (by rintro (q | q); exact h1 q; exact h2 q)))
    clear h1 h2 HT HM HE
    go_enter Try.func12, Try.ntmps12
    go_wp2_with (first | ((with_reducible refine HK.out.mono ?_); rintro e w1 ⟨rfl, g1⟩; have b1 := bstep NB g1; obtain ⟨y1, c0, c1, c2, c3, c4, c5, c6, cf⟩ := (N7.below g1).below (bbox1 w1 (.cells #[.int .i64 y.d, .slice y.ta y.t.length y.tc, .slice y.pa y.p.length y.pc] 34)); obtain ⟨z1, m0, m1, m2, mf⟩ := Box3.new w1 (.int .i64 y.d) (.slice y.ta y.t.length y.tc) (.slice y.pa y.p.length y.pc) 34) | ((with_reducible refine (HT2.out _ (HL.out.below (ball b1 _))).mono ?_); rintro e w' ⟨rfl, rfl⟩) | ((with_reducible refine (HM2.out _ (HL.out.below (ball b1 _))).mono ?_); rintro e w2 ⟨rfl, g2⟩; have b2 := bstep (ball b1 _) g2; obtain ⟨z3, p0, p1, p2, p3, p4, p5, p6, pf⟩ := ((N3.below g1).below (bbox1 _ _)).below g2))
    exact bodyPost_ret (v := .tuple #[zeroFr, .int .i64 6]) (by simp [zeroFr, results, Try.results12, go_sem, p0, p1, p2, p3, p4, p5, p6]) rfl ⟨rfl, by (repeat (with_reducible refine Below.setCell ?_ (by simp) _)); exact b2⟩
  · have HT2 := Lib.hid (HT.out false (iff_of_false (by decide) h1))
    have HM2 := Lib.hid (HM.out true (iff_of_true rfl (.inr h2)))
    have HE2 := Lib.hid (HE.out false (iff_of_false (by decide) h3))
    clear h1 h2 h3 HT HM HE
    go_enter Try.func12, Try.ntmps12
    go_wp2_with (first | ((with_reducible refine HK.out.mono ?_); rintro e w1 ⟨rfl, g1⟩; have b1 := bstep NB g1; obtain ⟨y1, c0, c1, c2, c3, c4, c5, c6, cf⟩ := (N7.below g1).below (bbox1 w1 (.cells #[.int .i64 y.d, .slice y.ta y.t.length y.tc, .slice y.pa y.p.length y.pc] 34)); obtain ⟨z1, m0, m1, m2, mf⟩ := Box3.new w1 (.int .i64 y.d) (.slice y.ta y.t.length y.tc) (.slice y.pa y.p.length y.pc) 34) | ((with_reducible refine (HT2.out _ (HL.out.below (ball b1 _))).mono ?_); rintro e w' ⟨rfl, rfl⟩) | ((with_reducible refine (HM2.out _ (HL.out.below (ball b1 _))).mono ?_); rintro e w2 ⟨rfl, g2⟩; have b2 := bstep (ball b1 _) g2; have S3 := ((N7.below g1).below (bbox1 w1 (.cells #[.int .i64 y.d, .slice y.ta y.t.length y.tc, .slice y.pa y.p.length y.pc] 34))).below g2; have S4 := S3.strip (x2 := .bool false) (x3 := .int .i64 0) (x4 := .int .i64 0); have hs1 := b1.size; have hs2 := g1.size; have R4 := (((((N3.below g1).below (bbox1 w1 (.cells #[.int .i64 y.d, .slice y.ta y.t.length y.tc, .slice y.pa y.p.length y.pc] 34))).below g2).put (c := w.heap.size) (o := 2) (x := .bool false) (by omega)).put (c := w.heap.size) (o := 3) (x := .int .i64 0) (by omega)).put (c := w.heap.size) (o := 4) (x := .int .i64 0) (by omega); have b4 := ((b2.setCell (p := ⟨w.heap.size, 2, none⟩) (Nat.le_refl _) (.bool false)).setCell (p := ⟨w.heap.size, 3, none⟩) (Nat.le_refl _) (.int .i64 0)).setCell (p := ⟨w.heap.size, 4, none⟩) (Nat.le_refl _) (.int .i64 0); obtain ⟨y2, k0, k1, k2, k3, k4, k5, k6, kf⟩ := S3; obtain ⟨y4, r0, r1, r2, r3, r4, r5, r6, rf⟩ := S4) | ((with_reducible refine (HE2.out _).mono ?_); rintro e w5 ⟨rfl, g5⟩; have b5 := bstep b4 g5; obtain ⟨z3, p0, p1, p2, p3, p4, p5, p6, pf⟩ := R4.below g5; obtain ⟨y6, f0, f1, f2, f3, f4, f5, f6, ff⟩ := (show Box7 _ w.heap.size _ _ _ _ _ _ _ from ⟨y4, r0, r1, r2, r3, r4, r5, r6, rf⟩).below g5))
    exact bodyPost_ret (v := .tuple #[zeroFr, .int .i64 6]) (by simp [zeroFr, results, Try.results12, go_sem, p0, p1, p2, p3, p4, p5, p6]) rfl ⟨rfl, by (repeat (with_reducible refine Below.setCell ?_ (by simp) _)); exact b5⟩
  · have HT2 := Lib.hid (HT.out false (iff_of_false (by decide) h1))
    have HM2 := Lib.hid (HM.out true (iff_of_true rfl (.inr h2)))
    have HE2 := Lib.hid (HE.out true (iff_of_true rfl h3))
    clear h1 h2 h3 HT HM HE
    go_enter Try.func12, Try.ntmps12
    go_wp2_with (first | ((with_reducible refine HK.out.mono ?_); rintro e w1 ⟨rfl, g1⟩; have b1 := bstep NB g1; obtain ⟨y1, c0, c1, c2, c3, c4, c5, c6, cf⟩ := (N7.below g1).below (bbox1 w1 (.cells #[.int .i64 y.d, .slice y.ta y.t.length y.tc, .slice y.pa y.p.length y.pc] 34)); obtain ⟨z1, m0, m1, m2, mf⟩ := Box3.new w1 (.int .i64 y.d) (.slice y.ta y.t.length y.tc) (.slice y.pa y.p.length y.pc) 34) | ((with_reducible refine (HT2.out _ (HL.out.below (ball b1 _))).mono ?_); rintro e w' ⟨rfl, rfl⟩) | ((with_reducible refine (HM2.out _ (HL.out.below (ball b1 _))).mono ?_); rintro e w2 ⟨rfl, g2⟩; have b2 := bstep (ball b1 _) g2; have S3 := ((N7.below g1).below (bbox1 w1 (.cells #[.int .i64 y.d, .slice y.ta y.t.length y.tc, .slice y.pa y.p.length y.pc] 34))).below g2; have S4 := S3.strip (x2 := .bool false) (x3 := .int .i64 0) (x4 := .int .i64 0); have hs1 := b1.size; have hs2 := g1.size; have R4 := (((((N3.below g1).below (bbox1 w1 (.cells #[.int .i64 y.d, .slice y.ta y.t.length y.tc, .slice y.pa y.p.length y.pc] 34))).below g2).put (c := w.heap.size) (o := 2) (x := .bool false) (by omega)).put (c := w.heap.size) (o := 3) (x := .int .i64 0) (by omega)).put (c := w.heap.size) (o := 4) (x := .int .i64 0) (by omega); have b4 := ((b2.setCell (p := ⟨w.heap.size, 2, none⟩) (Nat.le_refl _) (.bool false)).setCell (p := ⟨w.heap.size, 3, none⟩) (Nat.le_refl _) (.int .i64 0)).setCell (p := ⟨w.heap.size, 4, none⟩) (Nat.le_refl _) (.int .i64 0); obtain ⟨y2, k0, k1, k2, k3, k4, k5, k6, kf⟩ := S3; obtain ⟨y4, r0, r1, r2, r3, r4, r5, r6, rf⟩ := S4) | ((with_reducible refine (HE2.out _).mono ?_); rintro e w5 ⟨rfl, g5⟩; have b5 := bstep b4 g5; obtain ⟨z3, p0, p1, p2, p3, p4, p5, p6, pf⟩ := R4.below g5; obtain ⟨y6, f0, f1, f2, f3, f4, f5, f6, ff⟩ := (show Box7 _ w.heap.size _ _ _ _ _ _ _ from ⟨y4, r0, r1, r2, r3, r4, r5, r6, rf⟩).below g5))
    exact bodyPost_ret (v := .tuple #[fr dst src false 0 0 ty data, .int .i64 0]) (by simp [fr, results, Try.results12, go_sem, p0, p1, p2, p3, p4, p5, p6]) rfl ⟨rfl, by (repeat (with_reducible refine Below.setCell ?_ (by simp) _)); exact b5⟩
end Go.Proofs.Ytpninodcjglboaa
