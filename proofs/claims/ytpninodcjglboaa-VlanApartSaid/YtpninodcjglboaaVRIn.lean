/-
  What the document's own In (siphonref12) computes. Conditions: lists' lengths lie well within an int.
-/
import Derived.Test.YtpninodcjglboaaVIn2
namespace Go.Proofs.Ytpninodcjglboaa
open Go.RowKit

set_option maxRecDepth 100000 in
set_option maxHeartbeats 2000000 in
theorem rin_not (v : Value) (ps : List Pt) (q : Int) (dst src data : ByteArray) (tg : Bool) (vl pr ty c : Int) (hc : c ≠ 0) (hz : data.size ≤ 140737488351232) (hA : Asked ps q (Good3 dst src tg vl pr ty data) c none) (w : World) (hv : Ports w v ps) :
    Calls Try.prog 11 #[v, .int .i64 q, fr dst src tg vl pr ty data] w fun e w' => e = .returned (.tuple #[zeroFr, .int .i64 c]) ∧ Below w.heap.size w w' := by
  obtain ⟨N3, N7, NB⟩ := new77 w (.string dst) (.string src) (.bool tg) (.int .i64 vl) (.int .i64 pr) (.int .i64 ty) (.string data) (.string ⟨#[]⟩) (.string ⟨#[]⟩) (.bool false) (.int .i64 0) (.int .i64 0) (.int .i64 0) (.string ⟨#[]⟩) 25 25
  have V2h := Lib.hid (hv.below NB)
  obtain ⟨a, cap, rfl, hzl, -⟩ := hv
  unfold fr
  rcases hA with ⟨rfl, hno, -⟩ | ⟨hok, rfl, hq, -⟩ | ⟨-, rfl, -⟩
  · have HK := Lib.hid (fun (vv : Value) (W : World) (V : Ports W vv ps) => rcheck_any vv ps 3 (.inr ⟨rfl, hno⟩) W V)
    clear hno
    go_enter Try.func11, Try.ntmps11
    go_wp2_with ((with_reducible refine (HK.out _ _ V2h.out).mono ?_); rintro e w1 ⟨rfl, g1⟩; obtain ⟨z3, p0, p1, p2, p3, p4, p5, p6, pf⟩ := N3.below g1)
    exact bodyPost_ret (v := .tuple #[zeroFr, .int .i64 3]) (by simp [zeroFr, results, Try.results11, go_sem, p0, p1, p2, p3, p4, p5, p6]) rfl ⟨rfl, by (repeat (with_reducible refine Below.setCell ?_ (by simp) _)); exact bstep NB g1⟩
  · have HK := Lib.hid (fun (vv : Value) (W : World) (V : Ports W vv ps) => rcheck_any vv ps 0 (.inl ⟨rfl, hok⟩) W V)
    have hq2 : (decide (q < 0) = true) ∨ (decide (q < 0) = false ∧ decide ((ps.length : Int) ≤ q) = true) ∨ (decide (q < 0) = false ∧ decide ((ps.length : Int) ≤ q) = false ∧ ¬ Good3 dst src tg vl pr ty data) := by
      by_cases c1 : q < 0
      · exact .inl (decide_eq_true c1)
      · by_cases c2 : (ps.length : Int) ≤ q
        · exact .inr (.inl ⟨decide_eq_false c1, decide_eq_true c2⟩)
        · exact .inr (.inr ⟨decide_eq_false c1, decide_eq_false c2, (hq.resolve_left c1).resolve_left c2⟩)
    clear hok hq
    rcases hq2 with q1 | ⟨q1, q2⟩ | ⟨q1, q2, hno⟩
    · go_enter Try.func11, Try.ntmps11
      go_wp2_with ((with_reducible refine (HK.out _ _ V2h.out).mono ?_); rintro e w1 ⟨rfl, g1⟩; obtain ⟨z3, p0, p1, p2, p3, p4, p5, p6, pf⟩ := N3.below g1)
      exact bodyPost_ret (v := .tuple #[zeroFr, .int .i64 1]) (by simp [zeroFr, results, Try.results11, go_sem, p0, p1, p2, p3, p4, p5, p6]) rfl ⟨rfl, by (repeat (with_reducible refine Below.setCell ?_ (by simp) _)); exact bstep NB g1⟩
    · go_enter Try.func11, Try.ntmps11
      go_wp2_with ((with_reducible refine (HK.out _ _ V2h.out).mono ?_); rintro e w1 ⟨rfl, g1⟩; obtain ⟨z3, p0, p1, p2, p3, p4, p5, p6, pf⟩ := N3.below g1)
      exact bodyPost_ret (v := .tuple #[zeroFr, .int .i64 1]) (by simp [zeroFr, results, Try.results11, go_sem, p0, p1, p2, p3, p4, p5, p6]) rfl ⟨rfl, by (repeat (with_reducible refine Below.setCell ?_ (by simp) _)); exact bstep NB g1⟩
    · have HE := Lib.hid (fun (W : World) => rmay_is dst src data tg vl pr ty false hz (iff_of_false (by decide) hno) W)
      clear hno hz
      go_enter Try.func11, Try.ntmps11
      go_wp2_with (first | ((with_reducible refine (HK.out _ _ V2h.out).mono ?_); rintro e w1 ⟨rfl, g1⟩; obtain ⟨y1, c0, c1, c2, c3, c4, c5, c6, cf⟩ := N7.below g1) | ((with_reducible refine (HE.out _).mono ?_); rintro e w2 ⟨rfl, g2⟩; obtain ⟨z3, p0, p1, p2, p3, p4, p5, p6, pf⟩ := (N3.below g1).below g2))
      exact bodyPost_ret (v := .tuple #[zeroFr, .int .i64 1]) (by simp [zeroFr, results, Try.results11, go_sem, p0, p1, p2, p3, p4, p5, p6]) rfl ⟨rfl, by (repeat (with_reducible refine Below.setCell ?_ (by simp) _)); exact bstep (bstep NB g1) g2⟩
  · exact absurd rfl hc

set_option maxRecDepth 100000 in
set_option maxHeartbeats 2000000 in
theorem rin_had (v : Value) (ps : List Pt) (q : Int) (dst src data : ByteArray) (vl pr ty e0 : Int) (y : Pt) (r : Bool) (u : Value) (hz : data.size ≤ 140737488351232) (hA : Asked ps q (Good3 dst src true vl pr ty data) 0 (some y)) (hvl : vl ≠ 0) (hr : r = true ↔ vl ∈ y.t ∨ vl ∈ y.p)
    (hu : (vl = 0 ∧ u = zeroFr ∧ e0 = 6) ∨ (vl ≠ 0 ∧ r = false ∧ u = zeroFr ∧ e0 = 6) ∨ (vl ≠ 0 ∧ r = true ∧ u = fr dst src true vl pr ty data ∧ e0 = 0)) (w : World) (hv : Ports w v ps) :
    Calls Try.prog 11 #[v, .int .i64 q, fr dst src true vl pr ty data] w fun e w' => e = .returned (.tuple #[u, .int .i64 e0]) ∧ Below w.heap.size w w' := by
  obtain ⟨N3, N7, NB⟩ := new77 w (.string dst) (.string src) (.bool true) (.int .i64 vl) (.int .i64 pr) (.int .i64 ty) (.string data) (.string ⟨#[]⟩) (.string ⟨#[]⟩) (.bool false) (.int .i64 0) (.int .i64 0) (.int .i64 0) (.string ⟨#[]⟩) 25 25
  have V2h := Lib.hid (hv.below NB)
  obtain ⟨a, cap, rfl, hzl, hx, h⟩ := hv
  unfold fr
  rcases hA with ⟨hf, -⟩ | ⟨-, hf, -⟩ | ⟨hok, -, hg, k, y', rfl, hk, hy'⟩
  · exact absurd hf (by decide)
  · exact absurd hf (by decide)
  cases hy'
  have HK := Lib.hid (fun (vv : Value) (W : World) (V : Ports W vv ps) => rcheck_any vv ps 0 (.inl ⟨rfl, hok⟩) W V)
  have HE := Lib.hid (fun (W : World) => rmay_is dst src data true vl pr ty true hz (iff_of_true rfl hg) W)
  have hlt : k < ps.length := (List.getElem?_eq_some_iff.1 hk).1
  obtain ⟨b, o, x', rfl, hb, hxk, hxm, d0, d1, d2⟩ := Ports.at h hlt
  rw [hk] at hxk
  obtain rfl := Option.some.inj hxk
  have L0 := hx y hxm
  have LL := L0
  obtain ⟨-, -, n1, n2⟩ := LL
  have HM := Lib.hid (fun (W : World) (L : Pt.Lies W y) => rmember_any y.d (.slice y.ta y.t.length y.tc) (.slice y.pa y.p.length y.pc) y.t y.p vl r hr n1 n2 W L.1 L.2.1)
  have HL := Lib.hid L0
  have q1 : decide ((k : Int) < 0) = false := decide_eq_false (by omega)
  have q2 : decide ((ps.length : Int) ≤ (k : Int)) = false := decide_eq_false (by omega)
  have hlt2 : (k : Int) < (ps.length : Int) := by omega
  have h0 : (vl == 0) = false := by simpa using hvl
  have hu2 : ((vl == 0) = true ∧ u = zeroFr ∧ e0 = 6) ∨ ((vl == 0) = false ∧ r = false ∧ u = zeroFr ∧ e0 = 6) ∨ ((vl == 0) = false ∧ r = true ∧ u = fr dst src true vl pr ty data ∧ e0 = 0) := by
    rw [beq_iff_eq, beq_eq_false_iff_ne]; exact hu
  clear h hx hok hg hk hxk hxm hz hr hu L0 n1 n2 hvl
  rcases hu2 with ⟨hd, rfl, rfl⟩ | ⟨hd, rfl, rfl, rfl⟩ | ⟨hd, rfl, rfl, rfl⟩
  · exact absurd (h0.symm.trans hd) (by decide)
  · go_enter Try.func11, Try.ntmps11
    go_wp2_with (first | ((with_reducible refine (HK.out _ _ V2h.out).mono ?_); rintro e w1 ⟨rfl, g1⟩; obtain ⟨y1, c0, c1, c2, c3, c4, c5, c6, cf⟩ := N7.below g1) | ((with_reducible refine (HE.out _).mono ?_); rintro e w2 ⟨rfl, g2⟩; have BB := bstep (bstep NB g1) g2; have m0 := (BB.cell (p := ⟨b, o + k * 3, none⟩) hb).trans d0; have m1 := (BB.cell (p := ⟨b, o + k * 3 + 1, none⟩) hb).trans d1; have m2 := (BB.cell (p := ⟨b, o + k * 3 + 2, none⟩) hb).trans d2; obtain ⟨y2, k0, k1, k2, k3, k4, k5, k6, kf⟩ := (N7.below g1).below g2) | ((with_reducible refine (HM.out _ (HL.out.below BB)).mono ?_); rintro e w3 ⟨rfl, g3⟩; obtain ⟨z3, p0, p1, p2, p3, p4, p5, p6, pf⟩ := ((N3.below g1).below g2).below g3))
    exact bodyPost_ret (v := .tuple #[zeroFr, .int .i64 6]) (by simp [zeroFr, results, Try.results11, go_sem, p0, p1, p2, p3, p4, p5, p6]) rfl ⟨rfl, by (repeat (with_reducible refine Below.setCell ?_ (by simp) _)); exact bstep BB g3⟩
  · go_enter Try.func11, Try.ntmps11
    go_wp2_with (first | ((with_reducible refine (HK.out _ _ V2h.out).mono ?_); rintro e w1 ⟨rfl, g1⟩; obtain ⟨y1, c0, c1, c2, c3, c4, c5, c6, cf⟩ := N7.below g1) | ((with_reducible refine (HE.out _).mono ?_); rintro e w2 ⟨rfl, g2⟩; have BB := bstep (bstep NB g1) g2; have m0 := (BB.cell (p := ⟨b, o + k * 3, none⟩) hb).trans d0; have m1 := (BB.cell (p := ⟨b, o + k * 3 + 1, none⟩) hb).trans d1; have m2 := (BB.cell (p := ⟨b, o + k * 3 + 2, none⟩) hb).trans d2; obtain ⟨y2, k0, k1, k2, k3, k4, k5, k6, kf⟩ := (N7.below g1).below g2) | ((with_reducible refine (HM.out _ (HL.out.below BB)).mono ?_); rintro e w3 ⟨rfl, g3⟩; obtain ⟨z3, p0, p1, p2, p3, p4, p5, p6, pf⟩ := ((N3.below g1).below g2).below g3; have S3 := (((N7.below g1).below g2).below g3); have S4 := S3.tag (x2 := .bool true) (x3 := .int .i64 vl); obtain ⟨y3, r0, r1, r2, r3, r4, r5, r6, rf⟩ := S3))
    exact bodyPost_ret (v := .tuple #[fr dst src true vl pr ty data, .int .i64 0]) (by simp [fr, results, Try.results11, go_sem, p0, p1, p2, p3, p4, p5, p6]) rfl ⟨rfl, by (repeat (with_reducible refine Below.setCell ?_ (by simp) _)); exact bstep BB g3⟩

set_option maxRecDepth 100000 in
set_option maxHeartbeats 2000000 in
theorem rin_new (v : Value) (ps : List Pt) (q : Int) (dst src data : ByteArray) (tg : Bool) (pr ty e0 : Int) (y : Pt) (r : Bool) (u : Value) (hz : data.size ≤ 140737488351232) (hA : Asked ps q (Good3 dst src tg 0 pr ty data) 0 (some y)) (hr : r = true ↔ y.d ∈ y.t ∨ y.d ∈ y.p)
    (hu : (y.d = 0 ∧ u = zeroFr ∧ e0 = 6) ∨ (y.d ≠ 0 ∧ r = false ∧ u = zeroFr ∧ e0 = 6) ∨ (y.d ≠ 0 ∧ r = true ∧ u = fr dst src true y.d pr ty data ∧ e0 = 0)) (w : World) (hv : Ports w v ps) :
    Calls Try.prog 11 #[v, .int .i64 q, fr dst src tg 0 pr ty data] w fun e w' => e = .returned (.tuple #[u, .int .i64 e0]) ∧ Below w.heap.size w w' := by
  obtain ⟨N3, N7, NB⟩ := new77 w (.string dst) (.string src) (.bool tg) (.int .i64 0) (.int .i64 pr) (.int .i64 ty) (.string data) (.string ⟨#[]⟩) (.string ⟨#[]⟩) (.bool false) (.int .i64 0) (.int .i64 0) (.int .i64 0) (.string ⟨#[]⟩) 25 25
  have V2h := Lib.hid (hv.below NB)
  obtain ⟨a, cap, rfl, hzl, hx, h⟩ := hv
  unfold fr
  rcases hA with ⟨hf, -⟩ | ⟨-, hf, -⟩ | ⟨hok, -, hg, k, y', rfl, hk, hy'⟩
  · exact absurd hf (by decide)
  · exact absurd hf (by decide)
  cases hy'
  have HK := Lib.hid (fun (vv : Value) (W : World) (V : Ports W vv ps) => rcheck_any vv ps 0 (.inl ⟨rfl, hok⟩) W V)
  have HE := Lib.hid (fun (W : World) => rmay_is dst src data tg 0 pr ty true hz (iff_of_true rfl hg) W)
  have hlt : k < ps.length := (List.getElem?_eq_some_iff.1 hk).1
  obtain ⟨b, o, x', rfl, hb, hxk, hxm, d0, d1, d2⟩ := Ports.at h hlt
  rw [hk] at hxk
  obtain rfl := Option.some.inj hxk
  have L0 := hx y hxm
  have LL := L0
  obtain ⟨-, -, n1, n2⟩ := LL
  have HM := Lib.hid (fun (W : World) (L : Pt.Lies W y) => rmember_any y.d (.slice y.ta y.t.length y.tc) (.slice y.pa y.p.length y.pc) y.t y.p y.d r hr n1 n2 W L.1 L.2.1)
  have HL := Lib.hid L0
  have q1 : decide ((k : Int) < 0) = false := decide_eq_false (by omega)
  have q2 : decide ((ps.length : Int) ≤ (k : Int)) = false := decide_eq_false (by omega)
  have hlt2 : (k : Int) < (ps.length : Int) := by omega
  have hu2 : ((y.d == 0) = true ∧ u = zeroFr ∧ e0 = 6) ∨ ((y.d == 0) = false ∧ r = false ∧ u = zeroFr ∧ e0 = 6) ∨ ((y.d == 0) = false ∧ r = true ∧ u = fr dst src true y.d pr ty data ∧ e0 = 0) := by
    rw [beq_iff_eq, beq_eq_false_iff_ne]; exact hu
  clear h hx hok hg hk hxk hxm hz hr hu L0 n1 n2
  rcases tg with _ | _ <;> rcases hu2 with ⟨hd, rfl, rfl⟩ | ⟨hd, rfl, rfl, rfl⟩ | ⟨hd, rfl, rfl, rfl⟩
  · go_enter Try.func11, Try.ntmps11
    go_wp2_with (first | ((with_reducible refine (HK.out _ _ V2h.out).mono ?_); rintro e w1 ⟨rfl, g1⟩; obtain ⟨y1, c0, c1, c2, c3, c4, c5, c6, cf⟩ := N7.below g1) | ((with_reducible refine (HE.out _).mono ?_); rintro e w2 ⟨rfl, g2⟩; have BB := bstep (bstep NB g1) g2; have m0 := (BB.cell (p := ⟨b, o + k * 3, none⟩) hb).trans d0; have m1 := (BB.cell (p := ⟨b, o + k * 3 + 1, none⟩) hb).trans d1; have m2 := (BB.cell (p := ⟨b, o + k * 3 + 2, none⟩) hb).trans d2; obtain ⟨y2, k0, k1, k2, k3, k4, k5, k6, kf⟩ := (N7.below g1).below g2; obtain ⟨z3, p0, p1, p2, p3, p4, p5, p6, pf⟩ := (N3.below g1).below g2))
    exact bodyPost_ret (v := .tuple #[zeroFr, .int .i64 6]) (by simp [zeroFr, results, Try.results11, go_sem, p0, p1, p2, p3, p4, p5, p6]) rfl ⟨rfl, by (repeat (with_reducible refine Below.setCell ?_ (by simp) _)); exact BB⟩
  · go_enter Try.func11, Try.ntmps11
    go_wp2_with (first | ((with_reducible refine (HK.out _ _ V2h.out).mono ?_); rintro e w1 ⟨rfl, g1⟩; obtain ⟨y1, c0, c1, c2, c3, c4, c5, c6, cf⟩ := N7.below g1) | ((with_reducible refine (HE.out _).mono ?_); rintro e w2 ⟨rfl, g2⟩; have BB := bstep (bstep NB g1) g2; have m0 := (BB.cell (p := ⟨b, o + k * 3, none⟩) hb).trans d0; have m1 := (BB.cell (p := ⟨b, o + k * 3 + 1, none⟩) hb).trans d1; have m2 := (BB.cell (p := ⟨b, o + k * 3 + 2, none⟩) hb).trans d2; obtain ⟨y2, k0, k1, k2, k3, k4, k5, k6, kf⟩ := (N7.below g1).below g2) | ((with_reducible refine (HM.out _ (HL.out.below BB)).mono ?_); rintro e w3 ⟨rfl, g3⟩; obtain ⟨z3, p0, p1, p2, p3, p4, p5, p6, pf⟩ := ((N3.below g1).below g2).below g3))
    exact bodyPost_ret (v := .tuple #[zeroFr, .int .i64 6]) (by simp [zeroFr, results, Try.results11, go_sem, p0, p1, p2, p3, p4, p5, p6]) rfl ⟨rfl, by (repeat (with_reducible refine Below.setCell ?_ (by simp) _)); exact bstep BB g3⟩
  · go_enter Try.func11, Try.ntmps11
    go_wp2_with (first | ((with_reducible refine (HK.out _ _ V2h.out).mono ?_); rintro e w1 ⟨rfl, g1⟩; obtain ⟨y1, c0, c1, c2, c3, c4, c5, c6, cf⟩ := N7.below g1) | ((with_reducible refine (HE.out _).mono ?_); rintro e w2 ⟨rfl, g2⟩; have BB := bstep (bstep NB g1) g2; have m0 := (BB.cell (p := ⟨b, o + k * 3, none⟩) hb).trans d0; have m1 := (BB.cell (p := ⟨b, o + k * 3 + 1, none⟩) hb).trans d1; have m2 := (BB.cell (p := ⟨b, o + k * 3 + 2, none⟩) hb).trans d2; obtain ⟨y2, k0, k1, k2, k3, k4, k5, k6, kf⟩ := (N7.below g1).below g2) | ((with_reducible refine (HM.out _ (HL.out.below BB)).mono ?_); rintro e w3 ⟨rfl, g3⟩; obtain ⟨z3, p0, p1, p2, p3, p4, p5, p6, pf⟩ := ((N3.below g1).below g2).below g3; have S3 := (((N7.below g1).below g2).below g3); have S4 := S3.tag (x2 := .bool true) (x3 := .int .i64 y.d); obtain ⟨y3, r0, r1, r2, r3, r4, r5, r6, rf⟩ := S3))
    exact bodyPost_ret (v := .tuple #[fr dst src true y.d pr ty data, .int .i64 0]) (by simp [fr, results, Try.results11, go_sem, p0, p1, p2, p3, p4, p5, p6]) rfl ⟨rfl, by (repeat (with_reducible refine Below.setCell ?_ (by simp) _)); exact bstep BB g3⟩
  · go_enter Try.func11, Try.ntmps11
    go_wp2_with (first | ((with_reducible refine (HK.out _ _ V2h.out).mono ?_); rintro e w1 ⟨rfl, g1⟩; obtain ⟨y1, c0, c1, c2, c3, c4, c5, c6, cf⟩ := N7.below g1) | ((with_reducible refine (HE.out _).mono ?_); rintro e w2 ⟨rfl, g2⟩; have BB := bstep (bstep NB g1) g2; have m0 := (BB.cell (p := ⟨b, o + k * 3, none⟩) hb).trans d0; have m1 := (BB.cell (p := ⟨b, o + k * 3 + 1, none⟩) hb).trans d1; have m2 := (BB.cell (p := ⟨b, o + k * 3 + 2, none⟩) hb).trans d2; obtain ⟨y2, k0, k1, k2, k3, k4, k5, k6, kf⟩ := (N7.below g1).below g2; obtain ⟨z3, p0, p1, p2, p3, p4, p5, p6, pf⟩ := (N3.below g1).below g2))
    exact bodyPost_ret (v := .tuple #[zeroFr, .int .i64 6]) (by simp [zeroFr, results, Try.results11, go_sem, p0, p1, p2, p3, p4, p5, p6]) rfl ⟨rfl, by (repeat (with_reducible refine Below.setCell ?_ (by simp) _)); exact BB⟩
  · go_enter Try.func11, Try.ntmps11
    go_wp2_with (first | ((with_reducible refine (HK.out _ _ V2h.out).mono ?_); rintro e w1 ⟨rfl, g1⟩; obtain ⟨y1, c0, c1, c2, c3, c4, c5, c6, cf⟩ := N7.below g1) | ((with_reducible refine (HE.out _).mono ?_); rintro e w2 ⟨rfl, g2⟩; have BB := bstep (bstep NB g1) g2; have m0 := (BB.cell (p := ⟨b, o + k * 3, none⟩) hb).trans d0; have m1 := (BB.cell (p := ⟨b, o + k * 3 + 1, none⟩) hb).trans d1; have m2 := (BB.cell (p := ⟨b, o + k * 3 + 2, none⟩) hb).trans d2; obtain ⟨y2, k0, k1, k2, k3, k4, k5, k6, kf⟩ := (N7.below g1).below g2) | ((with_reducible refine (HM.out _ (HL.out.below BB)).mono ?_); rintro e w3 ⟨rfl, g3⟩; obtain ⟨z3, p0, p1, p2, p3, p4, p5, p6, pf⟩ := ((N3.below g1).below g2).below g3))
    exact bodyPost_ret (v := .tuple #[zeroFr, .int .i64 6]) (by simp [zeroFr, results, Try.results11, go_sem, p0, p1, p2, p3, p4, p5, p6]) rfl ⟨rfl, by (repeat (with_reducible refine Below.setCell ?_ (by simp) _)); exact bstep BB g3⟩
  · go_enter Try.func11, Try.ntmps11
    go_wp2_with (first | ((with_reducible refine (HK.out _ _ V2h.out).mono ?_); rintro e w1 ⟨rfl, g1⟩; obtain ⟨y1, c0, c1, c2, c3, c4, c5, c6, cf⟩ := N7.below g1) | ((with_reducible refine (HE.out _).mono ?_); rintro e w2 ⟨rfl, g2⟩; have BB := bstep (bstep NB g1) g2; have m0 := (BB.cell (p := ⟨b, o + k * 3, none⟩) hb).trans d0; have m1 := (BB.cell (p := ⟨b, o + k * 3 + 1, none⟩) hb).trans d1; have m2 := (BB.cell (p := ⟨b, o + k * 3 + 2, none⟩) hb).trans d2; obtain ⟨y2, k0, k1, k2, k3, k4, k5, k6, kf⟩ := (N7.below g1).below g2) | ((with_reducible refine (HM.out _ (HL.out.below BB)).mono ?_); rintro e w3 ⟨rfl, g3⟩; obtain ⟨z3, p0, p1, p2, p3, p4, p5, p6, pf⟩ := ((N3.below g1).below g2).below g3; have S3 := (((N7.below g1).below g2).below g3); have S4 := S3.tag (x2 := .bool true) (x3 := .int .i64 y.d); obtain ⟨y3, r0, r1, r2, r3, r4, r5, r6, rf⟩ := S3))
    exact bodyPost_ret (v := .tuple #[fr dst src true y.d pr ty data, .int .i64 0]) (by simp [fr, results, Try.results11, go_sem, p0, p1, p2, p3, p4, p5, p6]) rfl ⟨rfl, by (repeat (with_reducible refine Below.setCell ?_ (by simp) _)); exact bstep BB g3⟩

end Go.Proofs.Ytpninodcjglboaa
