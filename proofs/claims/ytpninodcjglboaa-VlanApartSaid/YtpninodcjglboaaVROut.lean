/-
  What the document's own Out (siphonref12) computes. Conditions: lists' lengths lie well within an int.
-/
import Derived.Test.YtpninodcjglboaaVOut
import Derived.Test.YtpninodcjglboaaVRIn
namespace Go.Proofs.Ytpninodcjglboaa
open Go.RowKit

/-- what Out's walk keeps: the frame's box, the result's box, the port's row -/
def KO (w : World) (n0 b r0 : Nat) (y : Pt) (v0 v1 v2 v3 v4 v5 v6 z0 z1 z2 z3 z4 z5 z6 : Value) (W : World) : Prop :=
  (Below n0 w W ∧ b < W.heap.size ∧ Box7 W (n0 + 1) z0 z1 z2 z3 z4 z5 z6 ∧ Box7 W n0 v0 v1 v2 v3 v4 v5 v6) ∧ W.cell? ⟨b, r0, none⟩ = some (.int .i64 y.d) ∧ W.cell? ⟨b, r0 + 1, none⟩ = some (.slice y.ta y.t.length y.tc) ∧ W.cell? ⟨b, r0 + 2, none⟩ = some (.slice y.pa y.p.length y.pc)
section
variable {w W W' : World} {n0 b r0 : Nat} {y : Pt} {v0 v1 v2 v3 v4 v5 v6 z0 z1 z2 z3 z4 z5 z6 : Value}
theorem KO.next (g : Below W.heap.size W W') (h : KO w n0 b r0 y v0 v1 v2 v3 v4 v5 v6 z0 z1 z2 z3 z4 z5 z6 W) : KO w n0 b r0 y v0 v1 v2 v3 v4 v5 v6 z0 z1 z2 z3 z4 z5 z6 W' := by
  obtain ⟨⟨k1, k2, k3, k4⟩, k5, k6, k7⟩ := h
  exact ⟨⟨k1.trans (g.mono (Nat.le_of_lt k4.1)), Nat.lt_of_lt_of_le k2 g.size, k3.below g, k4.below g⟩, (g.cell k2).trans k5, (g.cell k2).trans k6, (g.cell k2).trans k7⟩
theorem KO.drew (h : KO w n0 b r0 y v0 v1 v2 v3 v4 v5 v6 z0 z1 z2 z3 z4 z5 z6 W) : KO w n0 b r0 y v0 v1 v2 v3 v4 v5 v6 z0 z1 z2 z3 z4 z5 z6 W.drew := ⟨⟨h.1.1.drew, h.1.2⟩, h.2⟩
theorem KO.bel (h : KO w n0 b r0 y v0 v1 v2 v3 v4 v5 v6 z0 z1 z2 z3 z4 z5 z6 W) : Below n0 w W := h.1.1
theorem KO.out (h : KO w n0 b r0 y v0 v1 v2 v3 v4 v5 v6 z0 z1 z2 z3 z4 z5 z6 W) : W.cell? ⟨b, r0, none⟩ = some (.int .i64 y.d) ∧ W.cell? ⟨b, r0 + 1, none⟩ = some (.slice y.ta y.t.length y.tc) ∧ W.cell? ⟨b, r0 + 2, none⟩ = some (.slice y.pa y.p.length y.pc) ∧ W.cell? ⟨n0, 3, none⟩ = some v3 ∧ KO w n0 b r0 y v0 v1 v2 v3 v4 v5 v6 z0 z1 z2 z3 z4 z5 z6 W := ⟨h.2.1, h.2.2.1, h.2.2.2, h.1.2.2.2.2.2.2.2.1, h⟩
theorem KO.begin (h : KO w n0 b r0 y v0 v1 v2 v3 v4 v5 v6 z0 z1 z2 z3 z4 z5 z6 W) : W.drew.cell? ⟨b, r0, none⟩ = some (.int .i64 y.d) ∧ W.drew.cell? ⟨b, r0 + 1, none⟩ = some (.slice y.ta y.t.length y.tc) ∧ W.drew.cell? ⟨b, r0 + 2, none⟩ = some (.slice y.pa y.p.length y.pc) ∧ W.drew.cell? ⟨n0, 3, none⟩ = some v3 ∧ KO w n0 b r0 y v0 v1 v2 v3 v4 v5 v6 z0 z1 z2 z3 z4 z5 z6 W.drew := h.drew.out
theorem KO.step (g : Below W.heap.size W W') (h : KO w n0 b r0 y v0 v1 v2 v3 v4 v5 v6 z0 z1 z2 z3 z4 z5 z6 W) : W'.cell? ⟨b, r0, none⟩ = some (.int .i64 y.d) ∧ W'.cell? ⟨b, r0 + 1, none⟩ = some (.slice y.ta y.t.length y.tc) ∧ W'.cell? ⟨b, r0 + 2, none⟩ = some (.slice y.pa y.p.length y.pc) ∧ W'.cell? ⟨n0, 3, none⟩ = some v3 ∧ KO w n0 b r0 y v0 v1 v2 v3 v4 v5 v6 z0 z1 z2 z3 z4 z5 z6 W' := (h.next g).out
end

set_option maxRecDepth 100000 in
set_option maxHeartbeats 2000000 in
theorem rout_not (v : Value) (ps : List Pt) (q : Int) (dst src data : ByteArray) (tg : Bool) (vl pr ty c : Int) (hc : c ≠ 0) (hz : data.size ≤ 140737488351232) (hA : Asked ps q (Good3 dst src tg vl pr ty data) c none) (w : World) (hv : Ports w v ps) :
    Calls Try.prog 13 #[v, .int .i64 q, fr dst src tg vl pr ty data] w fun e w' => e = .returned (.tuple #[zeroFr, .int .i64 c]) ∧ Below w.heap.size w w' := by
  obtain ⟨N3, N7, NB⟩ := new77 w (.string dst) (.string src) (.bool tg) (.int .i64 vl) (.int .i64 pr) (.int .i64 ty) (.string data) (.string ⟨#[]⟩) (.string ⟨#[]⟩) (.bool false) (.int .i64 0) (.int .i64 0) (.int .i64 0) (.string ⟨#[]⟩) 25 25
  have V2h := Lib.hid (hv.below NB)
  obtain ⟨a, cap, rfl, hzl, -⟩ := hv
  unfold fr
  rcases hA with ⟨rfl, hno, -⟩ | ⟨hok, rfl, hq, -⟩ | ⟨-, rfl, -⟩
  · have HK := Lib.hid (fun (vv : Value) (W : World) (V : Ports W vv ps) => rcheck_any vv ps 3 (.inr ⟨rfl, hno⟩) W V)
    clear hno
    go_enter Try.func13, Try.ntmps13
    go_wp2_with ((with_reducible refine (HK.out _ _ V2h.out).mono ?_); rintro e w1 ⟨rfl, g1⟩; obtain ⟨z3, p0, p1, p2, p3, p4, p5, p6, pf⟩ := N3.below g1)
    exact bodyPost_ret (v := .tuple #[zeroFr, .int .i64 3]) (by simp [zeroFr, results, Try.results13, go_sem, p0, p1, p2, p3, p4, p5, p6]) rfl ⟨rfl, by (repeat (with_reducible refine Below.setCell ?_ (by simp) _)); exact bstep NB g1⟩
  · have HK := Lib.hid (fun (vv : Value) (W : World) (V : Ports W vv ps) => rcheck_any vv ps 0 (.inl ⟨rfl, hok⟩) W V)
    have hq2 : (decide (q < 0) = true) ∨ (decide (q < 0) = false ∧ decide ((ps.length : Int) ≤ q) = true) ∨ (decide (q < 0) = false ∧ decide ((ps.length : Int) ≤ q) = false ∧ ¬ Good3 dst src tg vl pr ty data) := by
      by_cases c1 : q < 0
      · exact .inl (decide_eq_true c1)
      · by_cases c2 : (ps.length : Int) ≤ q
        · exact .inr (.inl ⟨decide_eq_false c1, decide_eq_true c2⟩)
        · exact .inr (.inr ⟨decide_eq_false c1, decide_eq_false c2, (hq.resolve_left c1).resolve_left c2⟩)
    clear hok hq
    rcases hq2 with q1 | ⟨q1, q2⟩ | ⟨q1, q2, hno⟩
    · go_enter Try.func13, Try.ntmps13
      go_wp2_with ((with_reducible refine (HK.out _ _ V2h.out).mono ?_); rintro e w1 ⟨rfl, g1⟩; obtain ⟨z3, p0, p1, p2, p3, p4, p5, p6, pf⟩ := N3.below g1)
      exact bodyPost_ret (v := .tuple #[zeroFr, .int .i64 1]) (by simp [zeroFr, results, Try.results13, go_sem, p0, p1, p2, p3, p4, p5, p6]) rfl ⟨rfl, by (repeat (with_reducible refine Below.setCell ?_ (by simp) _)); exact bstep NB g1⟩
    · go_enter Try.func13, Try.ntmps13
      go_wp2_with ((with_reducible refine (HK.out _ _ V2h.out).mono ?_); rintro e w1 ⟨rfl, g1⟩; obtain ⟨z3, p0, p1, p2, p3, p4, p5, p6, pf⟩ := N3.below g1)
      exact bodyPost_ret (v := .tuple #[zeroFr, .int .i64 1]) (by simp [zeroFr, results, Try.results13, go_sem, p0, p1, p2, p3, p4, p5, p6]) rfl ⟨rfl, by (repeat (with_reducible refine Below.setCell ?_ (by simp) _)); exact bstep NB g1⟩
    · have HE := Lib.hid (fun (W : World) => rmay_is dst src data tg vl pr ty false hz (iff_of_false (by decide) hno) W)
      clear hno hz
      go_enter Try.func13, Try.ntmps13
      go_wp2_with (first | ((with_reducible refine (HK.out _ _ V2h.out).mono ?_); rintro e w1 ⟨rfl, g1⟩; obtain ⟨y1, c0, c1, c2, c3, c4, c5, c6, cf⟩ := N7.below g1) | ((with_reducible refine (HE.out _).mono ?_); rintro e w2 ⟨rfl, g2⟩; obtain ⟨z3, p0, p1, p2, p3, p4, p5, p6, pf⟩ := (N3.below g1).below g2))
      exact bodyPost_ret (v := .tuple #[zeroFr, .int .i64 1]) (by simp [zeroFr, results, Try.results13, go_sem, p0, p1, p2, p3, p4, p5, p6]) rfl ⟨rfl, by (repeat (with_reducible refine Below.setCell ?_ (by simp) _)); exact bstep (bstep NB g1) g2⟩
  · exact absurd rfl hc


set_option maxRecDepth 100000 in
set_option maxHeartbeats 2000000 in
theorem rout_zero (v : Value) (ps : List Pt) (q : Int) (dst src data : ByteArray) (tg : Bool) (pr ty : Int) (y : Pt) (hz : data.size ≤ 140737488351232) (hA : Asked ps q (Good3 dst src tg 0 pr ty data) 0 (some y)) (w : World) (hv : Ports w v ps) :
    Calls Try.prog 13 #[v, .int .i64 q, fr dst src tg 0 pr ty data] w fun e w' => e = .returned (.tuple #[zeroFr, .int .i64 1]) ∧ Below w.heap.size w w' := by
  obtain ⟨N3, N7, NB⟩ := new77 w (.string dst) (.string src) (.bool tg) (.int .i64 0) (.int .i64 pr) (.int .i64 ty) (.string data) (.string ⟨#[]⟩) (.string ⟨#[]⟩) (.bool false) (.int .i64 0) (.int .i64 0) (.int .i64 0) (.string ⟨#[]⟩) 25 25
  have V2h := Lib.hid (hv.below NB)
  obtain ⟨a, cap, rfl, hzl, hx, h⟩ := hv
  unfold fr
  rcases hA with ⟨hf, -⟩ | ⟨-, hf, -⟩ | ⟨hok, -, hg, k, y', rfl, hk, hy'⟩
  · exact absurd hf (by decide)
  · exact absurd hf (by decide)
  cases hy'
  have HK := Lib.hid (fun (vv : Value) (W : World) (V : Ports W vv ps) => rcheck_any vv ps 0 (.inl ⟨rfl, hok⟩) W V)
  have HE := Lib.hid (fun (W : World) => rmay_is dst src data tg 0 pr ty true hz (iff_of_true rfl hg) W)
  have hlt : k < ps.length := (List.getElem?_eq_some_iff.1 hk).1
  have q1 : decide ((k : Int) < 0) = false := decide_eq_false (by omega)
  have q2 : decide ((ps.length : Int) ≤ (k : Int)) = false := decide_eq_false (by omega)
  have hlt2 : (k : Int) < (ps.length : Int) := by omega
  clear h hx hok hg hk hz
  rcases tg with _ | _
  all_goals
    go_enter Try.func13, Try.ntmps13
    go_wp2_with (first | ((with_reducible refine (HK.out _ _ V2h.out).mono ?_); rintro e w1 ⟨rfl, g1⟩; obtain ⟨y1, c0, c1, c2, c3, c4, c5, c6, cf⟩ := N7.below g1) | ((with_reducible refine (HE.out _).mono ?_); rintro e w2 ⟨rfl, g2⟩; obtain ⟨y2, k0, k1, k2, k3, k4, k5, k6, kf⟩ := (N7.below g1).below g2; obtain ⟨z3, p0, p1, p2, p3, p4, p5, p6, pf⟩ := (N3.below g1).below g2))
    exact bodyPost_ret (v := .tuple #[zeroFr, .int .i64 1]) (by simp [zeroFr, results, Try.results13, go_sem, p0, p1, p2, p3, p4, p5, p6]) rfl ⟨rfl, by (repeat (with_reducible refine Below.setCell ?_ (by simp) _)); exact bstep (bstep NB g1) g2⟩

attribute [local go_sem ↓] Go.wp_at_zero Go.wp_at_succ
set_option maxRecDepth 100000 in
set_option maxHeartbeats 4000000 in
theorem rout_had (v : Value) (ps : List Pt) (q : Int) (dst src data : ByteArray) (vl pr ty e0 : Int) (y : Pt) (u : Value) (hz : data.size ≤ 140737488351232) (hA : Asked ps q (Good3 dst src true vl pr ty data) 0 (some y)) (hvl : vl ≠ 0)
    (hu : (vl ∈ y.t ∧ u = fr dst src true vl pr ty data ∧ e0 = 0) ∨ (vl ∉ y.t ∧ vl ∉ y.p ∧ u = zeroFr ∧ e0 = 6) ∨
     (vl ∉ y.t ∧ vl ∈ y.p ∧ ¬ Good3 dst src false 0 0 ty data ∧ u = zeroFr ∧ e0 = 6) ∨ (vl ∉ y.t ∧ vl ∈ y.p ∧ Good3 dst src false 0 0 ty data ∧ u = fr dst src false 0 0 ty data ∧ e0 = 0)) (w : World) (hv : Ports w v ps) :
    Calls Try.prog 13 #[v, .int .i64 q, fr dst src true vl pr ty data] w fun e w' => e = .returned (.tuple #[u, .int .i64 e0]) ∧ Below w.heap.size w w' := by
  obtain ⟨N3, N7, NB⟩ := new77 w (.string dst) (.string src) (.bool true) (.int .i64 vl) (.int .i64 pr) (.int .i64 ty) (.string data) (.string ⟨#[]⟩) (.string ⟨#[]⟩) (.bool false) (.int .i64 0) (.int .i64 0) (.int .i64 0) (.string ⟨#[]⟩) 25 25
  have V2h := Lib.hid (hv.below NB)
  obtain ⟨a, cap, rfl, hzl, hx, h⟩ := hv
  unfold fr
  rcases hA with ⟨hf, -⟩ | ⟨-, hf, -⟩ | ⟨hok, -, hg, k, y', rfl, hk, hy'⟩
  · exact absurd hf (by decide)
  · exact absurd hf (by decide)
  cases hy'
  have HK := Lib.hid (fun (vv : Value) (W : World) (V : Ports W vv ps) => rcheck_any vv ps 0 (.inl ⟨rfl, hok⟩) W V)
  have HE := Lib.hid (fun (W : World) => rmay_is dst src data true vl pr ty true hz (iff_of_true rfl hg) W)
  have hlt : k < ps.length := (List.getElem?_eq_some_iff.1 hk).1
  have q1 : decide ((k : Int) < 0) = false := decide_eq_false (by omega)
  have q2 : decide ((ps.length : Int) ≤ (k : Int)) = false := decide_eq_false (by omega)
  have hlt2 : (k : Int) < (ps.length : Int) := by omega
  have h0 : (vl == 0) = false := by simpa using hvl
  obtain ⟨b, o, x', rfl, hb, hxk, hxm, d0, d1, d2⟩ := Ports.at h hlt
  rw [hk] at hxk
  obtain rfl := Option.some.inj hxk
  have L0 := hx y hxm
  have LL := L0
  obtain ⟨-, -, n1, n2⟩ := LL
  have HT := Lib.hid (fun (r : Bool) (hr : r = true ↔ vl ∈ y.t) (W : World) (L : Pt.Lies W y) => has_any (.slice y.ta y.t.length y.tc) y.t vl r hr n1 W L.1)
  have HM := Lib.hid (fun (r : Bool) (hr : r = true ↔ vl ∈ y.t ∨ vl ∈ y.p) (W : World) (L : Pt.Lies W y) => rmember_any y.d (.slice y.ta y.t.length y.tc) (.slice y.pa y.p.length y.pc) y.t y.p vl r hr n1 n2 W L.1 L.2.1)
  have HG := Lib.hid (fun (r : Bool) (hr : r = true ↔ Good3 dst src false 0 0 ty data) (W : World) => rmay_is dst src data false 0 0 ty r hz hr W)
  have HL := Lib.hid L0
  have HB := Lib.hid hb
  clear h hx hok hg hk hxk hxm hz hvl L0 n1 n2 hb
  rcases hu with ⟨h1, rfl, rfl⟩ | ⟨h1, h2, rfl, rfl⟩ | ⟨h1, h2, h3, rfl, rfl⟩ | ⟨h1, h2, h3, rfl, rfl⟩
  · have HM2 := Lib.hid (HM.out true (iff_of_true rfl (.inl h1)))
    have HT2 := Lib.hid (HT.out true (iff_of_true rfl h1))
    clear h1 HT HM HG
    go_enter Try.func13, Try.ntmps13
    go_wp2_with (first | ((with_reducible refine (HK.out _ _ V2h.out).mono ?_); rintro e w1 ⟨rfl, g1⟩; obtain ⟨y1, c0, c1, c2, c3, c4, c5, c6, cf⟩ := N7.below g1) | ((with_reducible refine (HE.out _).mono ?_); rintro e w2 ⟨rfl, g2⟩; obtain ⟨y2, k0, k1, k2, k3, k4, k5, k6, kf⟩ := (N7.below g1).below g2))
    have K2 : KO w w.heap.size b (o + k * 3) y (.string dst) (.string src) (.bool true) (.int .i64 vl) (.int .i64 pr) (.int .i64 ty) (.string data) (.string ⟨#[]⟩) (.string ⟨#[]⟩) (.bool false) (.int .i64 0) (.int .i64 0) (.int .i64 0) (.string ⟨#[]⟩) w2 := KO.next g2 (KO.next g1 ⟨⟨NB, Nat.lt_of_lt_of_le HB.out NB.size, N3, N7⟩, (NB.cell (p := ⟨b, o + k * 3, none⟩) HB.out).trans d0, (NB.cell (p := ⟨b, o + k * 3 + 1, none⟩) HB.out).trans d1, (NB.cell (p := ⟨b, o + k * 3 + 2, none⟩) HB.out).trans d2⟩)
    clear c0 c1 c2 c3 c4 c5 c6 cf k0 k1 k2 k3 k4 k5 k6 kf d0 d1 d2
    go_region_held3 (fun w' => w'.cell? ⟨b, o + k * 3, none⟩ = some (.int .i64 y.d) ∧ w'.cell? ⟨b, o + k * 3 + 1, none⟩ = some (.slice y.ta y.t.length y.tc) ∧ w'.cell? ⟨b, o + k * 3 + 2, none⟩ = some (.slice y.pa y.p.length y.pc) ∧ w'.cell? ⟨w.heap.size, 3, none⟩ = some (.int .i64 vl) ∧ KO w w.heap.size b (o + k * 3) y (.string dst) (.string src) (.bool true) (.int .i64 vl) (.int .i64 pr) (.int .i64 ty) (.string data) (.string ⟨#[]⟩) (.string ⟨#[]⟩) (.bool false) (.int .i64 0) (.int .i64 0) (.int .i64 0) (.string ⟨#[]⟩) w')
      (first | (with_reducible exact KO.begin K2) | (go_split_ands; exact KO.step (by assumption) (by assumption)))
      (first | ((with_reducible refine (HM2.out _ (HL.out.below (KO.bel (KO.drew K2)))).mono ?_); rintro e w3 ⟨rfl, g3⟩))
    have K3 : KO w w.heap.size b (o + k * 3) y (.string dst) (.string src) (.bool true) (.int .i64 vl) (.int .i64 pr) (.int .i64 ty) (.string data) (.string ⟨#[]⟩) (.string ⟨#[]⟩) (.bool false) (.int .i64 0) (.int .i64 0) (.int .i64 0) (.string ⟨#[]⟩) w3 := by first | assumption | (go_split_ands; assumption) | go_split_ands
    have K3q := K3
    obtain ⟨⟨b3, -, ⟨z3, p0, p1, p2, p3, p4, p5, p6, pf⟩, -⟩, -⟩ := K3q
    go_wp2
    go_region_held3 (fun w' => w'.cell? ⟨b, o + k * 3, none⟩ = some (.int .i64 y.d) ∧ w'.cell? ⟨b, o + k * 3 + 1, none⟩ = some (.slice y.ta y.t.length y.tc) ∧ w'.cell? ⟨b, o + k * 3 + 2, none⟩ = some (.slice y.pa y.p.length y.pc) ∧ w'.cell? ⟨w.heap.size, 3, none⟩ = some (.int .i64 vl) ∧ KO w w.heap.size b (o + k * 3) y (.string dst) (.string src) (.bool true) (.int .i64 vl) (.int .i64 pr) (.int .i64 ty) (.string data) (.string ⟨#[]⟩) (.string ⟨#[]⟩) (.bool false) (.int .i64 0) (.int .i64 0) (.int .i64 0) (.string ⟨#[]⟩) w')
      (first | (with_reducible exact KO.begin K3) | (go_split_ands; assumption))
      (first | ((with_reducible refine (HT2.out _ (HL.out.below (KO.bel (KO.drew K3)))).mono ?_); rintro e w' ⟨rfl, rfl⟩))
    have K4 : KO w w.heap.size b (o + k * 3) y (.string dst) (.string src) (.bool true) (.int .i64 vl) (.int .i64 pr) (.int .i64 ty) (.string data) (.string ⟨#[]⟩) (.string ⟨#[]⟩) (.bool false) (.int .i64 0) (.int .i64 0) (.int .i64 0) (.string ⟨#[]⟩) w3.drew := K3.drew
    generalize w3.drew = W5 at K4 ⊢
    clear p0 p1 p2 p3 p4 p5 p6 pf
    have K4q := K4
    obtain ⟨⟨b4, -, ⟨z4, p0, p1, p2, p3, p4, p5, p6, pf⟩, ⟨y4, k0, k1, k2, k3, k4, k5, k6, kf⟩⟩, -⟩ := K4q
    go_wp2
    exact bodyPost_ret (v := .tuple #[fr dst src true vl pr ty data, .int .i64 0]) (by simp [fr, results, Try.results13, go_sem, p0, p1, p2, p3, p4, p5, p6]) rfl ⟨rfl, by (repeat (with_reducible refine Below.setCell ?_ (by simp) _)); exact b4⟩
  · have HM2 := Lib.hid (HM.out false (iff_of_false (by decide) (by rintro (q | q); exact h1 q; exact h2 q)))
    clear h1 h2 HT HM HG
    go_enter Try.func13, Try.ntmps13
    go_wp2_with (first | ((with_reducible refine (HK.out _ _ V2h.out).mono ?_); rintro e w1 ⟨rfl, g1⟩; obtain ⟨y1, c0, c1, c2, c3, c4, c5, c6, cf⟩ := N7.below g1) | ((with_reducible refine (HE.out _).mono ?_); rintro e w2 ⟨rfl, g2⟩; obtain ⟨y2, k0, k1, k2, k3, k4, k5, k6, kf⟩ := (N7.below g1).below g2))
    have K2 : KO w w.heap.size b (o + k * 3) y (.string dst) (.string src) (.bool true) (.int .i64 vl) (.int .i64 pr) (.int .i64 ty) (.string data) (.string ⟨#[]⟩) (.string ⟨#[]⟩) (.bool false) (.int .i64 0) (.int .i64 0) (.int .i64 0) (.string ⟨#[]⟩) w2 := KO.next g2 (KO.next g1 ⟨⟨NB, Nat.lt_of_lt_of_le HB.out NB.size, N3, N7⟩, (NB.cell (p := ⟨b, o + k * 3, none⟩) HB.out).trans d0, (NB.cell (p := ⟨b, o + k * 3 + 1, none⟩) HB.out).trans d1, (NB.cell (p := ⟨b, o + k * 3 + 2, none⟩) HB.out).trans d2⟩)
    clear c0 c1 c2 c3 c4 c5 c6 cf k0 k1 k2 k3 k4 k5 k6 kf d0 d1 d2
    go_region_held3 (fun w' => w'.cell? ⟨b, o + k * 3, none⟩ = some (.int .i64 y.d) ∧ w'.cell? ⟨b, o + k * 3 + 1, none⟩ = some (.slice y.ta y.t.length y.tc) ∧ w'.cell? ⟨b, o + k * 3 + 2, none⟩ = some (.slice y.pa y.p.length y.pc) ∧ w'.cell? ⟨w.heap.size, 3, none⟩ = some (.int .i64 vl) ∧ KO w w.heap.size b (o + k * 3) y (.string dst) (.string src) (.bool true) (.int .i64 vl) (.int .i64 pr) (.int .i64 ty) (.string data) (.string ⟨#[]⟩) (.string ⟨#[]⟩) (.bool false) (.int .i64 0) (.int .i64 0) (.int .i64 0) (.string ⟨#[]⟩) w')
      (first | (with_reducible exact KO.begin K2) | (go_split_ands; exact KO.step (by assumption) (by assumption)))
      (first | ((with_reducible refine (HM2.out _ (HL.out.below (KO.bel (KO.drew K2)))).mono ?_); rintro e w3 ⟨rfl, g3⟩))
    have K3 : KO w w.heap.size b (o + k * 3) y (.string dst) (.string src) (.bool true) (.int .i64 vl) (.int .i64 pr) (.int .i64 ty) (.string data) (.string ⟨#[]⟩) (.string ⟨#[]⟩) (.bool false) (.int .i64 0) (.int .i64 0) (.int .i64 0) (.string ⟨#[]⟩) w3 := by first | assumption | (go_split_ands; assumption) | go_split_ands
    have K3q := K3
    obtain ⟨⟨b3, -, ⟨z3, p0, p1, p2, p3, p4, p5, p6, pf⟩, -⟩, -⟩ := K3q
    go_wp2
    exact bodyPost_ret (v := .tuple #[zeroFr, .int .i64 6]) (by simp [zeroFr, results, Try.results13, go_sem, p0, p1, p2, p3, p4, p5, p6]) rfl ⟨rfl, by (repeat (with_reducible refine Below.setCell ?_ (by simp) _)); exact b3⟩
  · have HM2 := Lib.hid (HM.out true (iff_of_true rfl (.inr h2)))
    have HT2 := Lib.hid (HT.out false (iff_of_false (by decide) h1))
    have HG2 := Lib.hid (HG.out false (iff_of_false (by decide) h3))
    clear h1 h2 h3 HT HM HG
    go_enter Try.func13, Try.ntmps13
    go_wp2_with (first | ((with_reducible refine (HK.out _ _ V2h.out).mono ?_); rintro e w1 ⟨rfl, g1⟩; obtain ⟨y1, c0, c1, c2, c3, c4, c5, c6, cf⟩ := N7.below g1) | ((with_reducible refine (HE.out _).mono ?_); rintro e w2 ⟨rfl, g2⟩; obtain ⟨y2, k0, k1, k2, k3, k4, k5, k6, kf⟩ := (N7.below g1).below g2))
    have K2 : KO w w.heap.size b (o + k * 3) y (.string dst) (.string src) (.bool true) (.int .i64 vl) (.int .i64 pr) (.int .i64 ty) (.string data) (.string ⟨#[]⟩) (.string ⟨#[]⟩) (.bool false) (.int .i64 0) (.int .i64 0) (.int .i64 0) (.string ⟨#[]⟩) w2 := KO.next g2 (KO.next g1 ⟨⟨NB, Nat.lt_of_lt_of_le HB.out NB.size, N3, N7⟩, (NB.cell (p := ⟨b, o + k * 3, none⟩) HB.out).trans d0, (NB.cell (p := ⟨b, o + k * 3 + 1, none⟩) HB.out).trans d1, (NB.cell (p := ⟨b, o + k * 3 + 2, none⟩) HB.out).trans d2⟩)
    clear c0 c1 c2 c3 c4 c5 c6 cf k0 k1 k2 k3 k4 k5 k6 kf d0 d1 d2
    go_region_held3 (fun w' => w'.cell? ⟨b, o + k * 3, none⟩ = some (.int .i64 y.d) ∧ w'.cell? ⟨b, o + k * 3 + 1, none⟩ = some (.slice y.ta y.t.length y.tc) ∧ w'.cell? ⟨b, o + k * 3 + 2, none⟩ = some (.slice y.pa y.p.length y.pc) ∧ w'.cell? ⟨w.heap.size, 3, none⟩ = some (.int .i64 vl) ∧ KO w w.heap.size b (o + k * 3) y (.string dst) (.string src) (.bool true) (.int .i64 vl) (.int .i64 pr) (.int .i64 ty) (.string data) (.string ⟨#[]⟩) (.string ⟨#[]⟩) (.bool false) (.int .i64 0) (.int .i64 0) (.int .i64 0) (.string ⟨#[]⟩) w')
      (first | (with_reducible exact KO.begin K2) | (go_split_ands; exact KO.step (by assumption) (by assumption)))
      (first | ((with_reducible refine (HM2.out _ (HL.out.below (KO.bel (KO.drew K2)))).mono ?_); rintro e w3 ⟨rfl, g3⟩))
    have K3 : KO w w.heap.size b (o + k * 3) y (.string dst) (.string src) (.bool true) (.int .i64 vl) (.int .i64 pr) (.int .i64 ty) (.string data) (.string ⟨#[]⟩) (.string ⟨#[]⟩) (.bool false) (.int .i64 0) (.int .i64 0) (.int .i64 0) (.string ⟨#[]⟩) w3 := by first | assumption | (go_split_ands; assumption) | go_split_ands
    have K3q := K3
    obtain ⟨⟨b3, -, ⟨z3, p0, p1, p2, p3, p4, p5, p6, pf⟩, -⟩, -⟩ := K3q
    go_wp2
    go_region_held3 (fun w' => w'.cell? ⟨b, o + k * 3, none⟩ = some (.int .i64 y.d) ∧ w'.cell? ⟨b, o + k * 3 + 1, none⟩ = some (.slice y.ta y.t.length y.tc) ∧ w'.cell? ⟨b, o + k * 3 + 2, none⟩ = some (.slice y.pa y.p.length y.pc) ∧ w'.cell? ⟨w.heap.size, 3, none⟩ = some (.int .i64 vl) ∧ KO w w.heap.size b (o + k * 3) y (.string dst) (.string src) (.bool true) (.int .i64 vl) (.int .i64 pr) (.int .i64 ty) (.string data) (.string ⟨#[]⟩) (.string ⟨#[]⟩) (.bool false) (.int .i64 0) (.int .i64 0) (.int .i64 0) (.string ⟨#[]⟩) w')
      (first | (with_reducible exact KO.begin K3) | (go_split_ands; assumption))
      (first | ((with_reducible refine (HT2.out _ (HL.out.below (KO.bel (KO.drew K3)))).mono ?_); rintro e w' ⟨rfl, rfl⟩))
    have K4 : KO w w.heap.size b (o + k * 3) y (.string dst) (.string src) (.bool true) (.int .i64 vl) (.int .i64 pr) (.int .i64 ty) (.string data) (.string ⟨#[]⟩) (.string ⟨#[]⟩) (.bool false) (.int .i64 0) (.int .i64 0) (.int .i64 0) (.string ⟨#[]⟩) w3.drew := K3.drew
    generalize w3.drew = W5 at K4 ⊢
    clear p0 p1 p2 p3 p4 p5 p6 pf
    have K4q := K4
    obtain ⟨⟨b4, -, ⟨z4, p0, p1, p2, p3, p4, p5, p6, pf⟩, ⟨y4, k0, k1, k2, k3, k4, k5, k6, kf⟩⟩, -⟩ := K4q
    have R5 := (((show Box7 W5 (w.heap.size + 1) _ _ _ _ _ _ _ from ⟨z4, p0, p1, p2, p3, p4, p5, p6, pf⟩).put (c := w.heap.size) (o := 2) (x := .bool false) (by omega)).put (c := w.heap.size) (o := 3) (x := .int .i64 0) (by omega)).put (c := w.heap.size) (o := 4) (x := .int .i64 0) (by omega)
    have S5 := (show Box7 W5 w.heap.size _ _ _ _ _ _ _ from ⟨y4, k0, k1, k2, k3, k4, k5, k6, kf⟩).strip (x2 := .bool false) (x3 := .int .i64 0) (x4 := .int .i64 0)
    have b5 := ((b4.setCell (p := ⟨w.heap.size, 2, none⟩) (Nat.le_refl _) (.bool false)).setCell (p := ⟨w.heap.size, 3, none⟩) (Nat.le_refl _) (.int .i64 0)).setCell (p := ⟨w.heap.size, 4, none⟩) (Nat.le_refl _) (.int .i64 0)
    have S5q := S5
    obtain ⟨y5, r0, r1, r2, r3, r4, r5, r6, rf⟩ := S5q
    clear p0 p1 p2 p3 p4 p5 p6 pf
    go_wp2_with ((with_reducible refine (HG2.out _).mono ?_); rintro e w6 ⟨rfl, g6⟩; have b6 := bstep b5 g6; obtain ⟨z6, p0, p1, p2, p3, p4, p5, p6, pf⟩ := R5.below g6; obtain ⟨y6, f0, f1, f2, f3, f4, f5, f6, ff⟩ := S5.below g6)
    exact bodyPost_ret (v := .tuple #[zeroFr, .int .i64 6]) (by simp [zeroFr, results, Try.results13, go_sem, p0, p1, p2, p3, p4, p5, p6]) rfl ⟨rfl, by (repeat (with_reducible refine Below.setCell ?_ (by simp) _)); exact b6⟩
  · have HM2 := Lib.hid (HM.out true (iff_of_true rfl (.inr h2)))
    have HT2 := Lib.hid (HT.out false (iff_of_false (by decide) h1))
    have HG2 := Lib.hid (HG.out true (iff_of_true rfl h3))
    clear h1 h2 h3 HT HM HG
    go_enter Try.func13, Try.ntmps13
    go_wp2_with (first | ((with_reducible refine (HK.out _ _ V2h.out).mono ?_); rintro e w1 ⟨rfl, g1⟩; obtain ⟨y1, c0, c1, c2, c3, c4, c5, c6, cf⟩ := N7.below g1) | ((with_reducible refine (HE.out _).mono ?_); rintro e w2 ⟨rfl, g2⟩; obtain ⟨y2, k0, k1, k2, k3, k4, k5, k6, kf⟩ := (N7.below g1).below g2))
    have K2 : KO w w.heap.size b (o + k * 3) y (.string dst) (.string src) (.bool true) (.int .i64 vl) (.int .i64 pr) (.int .i64 ty) (.string data) (.string ⟨#[]⟩) (.string ⟨#[]⟩) (.bool false) (.int .i64 0) (.int .i64 0) (.int .i64 0) (.string ⟨#[]⟩) w2 := KO.next g2 (KO.next g1 ⟨⟨NB, Nat.lt_of_lt_of_le HB.out NB.size, N3, N7⟩, (NB.cell (p := ⟨b, o + k * 3, none⟩) HB.out).trans d0, (NB.cell (p := ⟨b, o + k * 3 + 1, none⟩) HB.out).trans d1, (NB.cell (p := ⟨b, o + k * 3 + 2, none⟩) HB.out).trans d2⟩)
    clear c0 c1 c2 c3 c4 c5 c6 cf k0 k1 k2 k3 k4 k5 k6 kf d0 d1 d2
    go_region_held3 (fun w' => w'.cell? ⟨b, o + k * 3, none⟩ = some (.int .i64 y.d) ∧ w'.cell? ⟨b, o + k * 3 + 1, none⟩ = some (.slice y.ta y.t.length y.tc) ∧ w'.cell? ⟨b, o + k * 3 + 2, none⟩ = some (.slice y.pa y.p.length y.pc) ∧ w'.cell? ⟨w.heap.size, 3, none⟩ = some (.int .i64 vl) ∧ KO w w.heap.size b (o + k * 3) y (.string dst) (.string src) (.bool true) (.int .i64 vl) (.int .i64 pr) (.int .i64 ty) (.string data) (.string ⟨#[]⟩) (.string ⟨#[]⟩) (.bool false) (.int .i64 0) (.int .i64 0) (.int .i64 0) (.string ⟨#[]⟩) w')
      (first | (with_reducible exact KO.begin K2) | (go_split_ands; exact KO.step (by assumption) (by assumption)))
      (first | ((with_reducible refine (HM2.out _ (HL.out.below (KO.bel (KO.drew K2)))).mono ?_); rintro e w3 ⟨rfl, g3⟩))
    have K3 : KO w w.heap.size b (o + k * 3) y (.string dst) (.string src) (.bool true) (.int .i64 vl) (.int .i64 pr) (.int .i64 ty) (.string data) (.string ⟨#[]⟩) (.string ⟨#[]⟩) (.bool false) (.int .i64 0) (.int .i64 0) (.int .i64 0) (.string ⟨#[]⟩) w3 := by first | assumption | (go_split_ands; assumption) | go_split_ands
    have K3q := K3
    obtain ⟨⟨b3, -, ⟨z3, p0, p1, p2, p3, p4, p5, p6, pf⟩, -⟩, -⟩ := K3q
    go_wp2
    go_region_held3 (fun w' => w'.cell? ⟨b, o + k * 3, none⟩ = some (.int .i64 y.d) ∧ w'.cell? ⟨b, o + k * 3 + 1, none⟩ = some (.slice y.ta y.t.length y.tc) ∧ w'.cell? ⟨b, o + k * 3 + 2, none⟩ = some (.slice y.pa y.p.length y.pc) ∧ w'.cell? ⟨w.heap.size, 3, none⟩ = some (.int .i64 vl) ∧ KO w w.heap.size b (o + k * 3) y (.string dst) (.string src) (.bool true) (.int .i64 vl) (.int .i64 pr) (.int .i64 ty) (.string data) (.string ⟨#[]⟩) (.string ⟨#[]⟩) (.bool false) (.int .i64 0) (.int .i64 0) (.int .i64 0) (.string ⟨#[]⟩) w')
      (first | (with_reducible exact KO.begin K3) | (go_split_ands; assumption))
      (first | ((with_reducible refine (HT2.out _ (HL.out.below (KO.bel (KO.drew K3)))).mono ?_); rintro e w' ⟨rfl, rfl⟩))
    have K4 : KO w w.heap.size b (o + k * 3) y (.string dst) (.string src) (.bool true) (.int .i64 vl) (.int .i64 pr) (.int .i64 ty) (.string data) (.string ⟨#[]⟩) (.string ⟨#[]⟩) (.bool false) (.int .i64 0) (.int .i64 0) (.int .i64 0) (.string ⟨#[]⟩) w3.drew := K3.drew
    generalize w3.drew = W5 at K4 ⊢
    clear p0 p1 p2 p3 p4 p5 p6 pf
    have K4q := K4
    obtain ⟨⟨b4, -, ⟨z4, p0, p1, p2, p3, p4, p5, p6, pf⟩, ⟨y4, k0, k1, k2, k3, k4, k5, k6, kf⟩⟩, -⟩ := K4q
    have R5 := (((show Box7 W5 (w.heap.size + 1) _ _ _ _ _ _ _ from ⟨z4, p0, p1, p2, p3, p4, p5, p6, pf⟩).put (c := w.heap.size) (o := 2) (x := .bool false) (by omega)).put (c := w.heap.size) (o := 3) (x := .int .i64 0) (by omega)).put (c := w.heap.size) (o := 4) (x := .int .i64 0) (by omega)
    have S5 := (show Box7 W5 w.heap.size _ _ _ _ _ _ _ from ⟨y4, k0, k1, k2, k3, k4, k5, k6, kf⟩).strip (x2 := .bool false) (x3 := .int .i64 0) (x4 := .int .i64 0)
    have b5 := ((b4.setCell (p := ⟨w.heap.size, 2, none⟩) (Nat.le_refl _) (.bool false)).setCell (p := ⟨w.heap.size, 3, none⟩) (Nat.le_refl _) (.int .i64 0)).setCell (p := ⟨w.heap.size, 4, none⟩) (Nat.le_refl _) (.int .i64 0)
    have S5q := S5
    obtain ⟨y5, r0, r1, r2, r3, r4, r5, r6, rf⟩ := S5q
    clear p0 p1 p2 p3 p4 p5 p6 pf
    go_wp2_with ((with_reducible refine (HG2.out _).mono ?_); rintro e w6 ⟨rfl, g6⟩; have b6 := bstep b5 g6; obtain ⟨z6, p0, p1, p2, p3, p4, p5, p6, pf⟩ := R5.below g6; obtain ⟨y6, f0, f1, f2, f3, f4, f5, f6, ff⟩ := S5.below g6)
    exact bodyPost_ret (v := .tuple #[fr dst src false 0 0 ty data, .int .i64 0]) (by simp [fr, results, Try.results13, go_sem, p0, p1, p2, p3, p4, p5, p6]) rfl ⟨rfl, by (repeat (with_reducible refine Below.setCell ?_ (by simp) _)); exact b6⟩
end Go.Proofs.Ytpninodcjglboaa
