/-
  What vlan.asked and vlan.In compute. Conditions: lists' lengths lie well within an int.
-/
import Derived.Test.YtpninodcjglboaaVRCheck
import Derived.Test.YtpninodcjglboaaVMay
namespace Go.Proofs.Ytpninodcjglboaa
open Go.RowKit

/-- a port as a value -/
def Pt.val (x : Pt) : Value := .agg #[.int .i64 x.d, .slice x.ta x.t.length x.tc, .slice x.pa x.p.length x.pc]
def zeroPort : Value := .agg #[.int .i64 0, .slice none 0 0, .slice none 0 0]
def fr (dst src : ByteArray) (tg : Bool) (vl pr ty : Int) (data : ByteArray) : Value := .agg #[.string dst, .string src, .bool tg, .int .i64 vl, .int .i64 pr, .int .i64 ty, .string data]
def zeroFr : Value := .agg #[.string ⟨#[]⟩, .string ⟨#[]⟩, .bool false, .int .i64 0, .int .i64 0, .int .i64 0, .string ⟨#[]⟩]

/-- the port that is asked for, or why there is none: 0: it is there -/
def Asked (ps : List Pt) (q : Int) (ok : Prop) (c : Int) (x : Option Pt) : Prop :=
  (c = 3 ∧ ¬ OkPorts ps ∧ x = none) ∨ (OkPorts ps ∧ c = 1 ∧ (q < 0 ∨ (ps.length : Int) ≤ q ∨ ¬ ok) ∧ x = none) ∨ (OkPorts ps ∧ c = 0 ∧ ok ∧ ∃ (k : Nat) (y : Pt), q = k ∧ ps[k]? = some y ∧ x = some y)
def portOf : Option Pt → Value | none => zeroPort | some x => x.val

theorem asked_total (ps : List Pt) (q : Int) (ok : Prop) : ∃ c x, Asked ps q ok c x := by
  by_cases h1 : OkPorts ps
  · by_cases h2 : q < 0 ∨ (ps.length : Int) ≤ q ∨ ¬ ok
    · exact ⟨1, none, .inr (.inl ⟨h1, rfl, h2, rfl⟩)⟩
    · have h3 : 0 ≤ q ∧ q < (ps.length : Int) ∧ ok := ⟨by omega, by omega, by by_cases ho : ok; exact ho; exact absurd (.inr (.inr ho)) h2⟩
      obtain ⟨k, rfl⟩ := Int.eq_ofNat_of_zero_le h3.1
      have hk : k < ps.length := by omega
      exact ⟨0, some _, .inr (.inr ⟨h1, rfl, h3.2.2, k, _, rfl, List.getElem?_eq_getElem hk, rfl⟩)⟩
  · exact ⟨3, none, .inl ⟨rfl, h1, rfl⟩⟩

/-- the frame's box and the result's box behind it -/
theorem new73 (w : World) (u0 u1 u2 u3 u4 u5 u6 z0 z1 z2 : Value) (t t2 : TypeId) :
    Box3 ((w.alloc (.cells #[u0, u1, u2, u3, u4, u5, u6] t)).alloc (.cells #[z0, z1, z2] t2)) (w.heap.size + 1) z0 z1 z2 ∧ Box7 ((w.alloc (.cells #[u0, u1, u2, u3, u4, u5, u6] t)).alloc (.cells #[z0, z1, z2] t2)) w.heap.size u0 u1 u2 u3 u4 u5 u6 ∧
      Below w.heap.size w ((w.alloc (.cells #[u0, u1, u2, u3, u4, u5, u6] t)).alloc (.cells #[z0, z1, z2] t2)) := by
  have h := Box3.new (w.alloc (.cells #[u0, u1, u2, u3, u4, u5, u6] t)) z0 z1 z2 t2
  rw [World.size_alloc] at h
  exact ⟨h, (Box7.new w u0 u1 u2 u3 u4 u5 u6 t).below (bbox1 _ _), ball (bbox1 _ _) _⟩

set_option maxRecDepth 100000 in
set_option maxHeartbeats 2000000 in
theorem asked_any (v : Value) (ps : List Pt) (q : Int) (dst src data : ByteArray) (tg : Bool) (vl pr ty : Int) (c : Int) (x : Option Pt) (hz : data.size ≤ 140737488351232) (hA : Asked ps q (Good3 dst src tg vl pr ty data) c x) (w : World) (hv : Ports w v ps) :
    Calls Try.prog 20 #[v, .int .i64 q, fr dst src tg vl pr ty data] w fun e w' => e = .returned (.tuple #[portOf x, .int .i64 c]) ∧ Below w.heap.size w w' := by
  obtain ⟨N3, N7, NB⟩ := new73 w (.string dst) (.string src) (.bool tg) (.int .i64 vl) (.int .i64 pr) (.int .i64 ty) (.string data) (.int .i64 0) (.slice none 0 0) (.slice none 0 0) 25 34
  have V2h := Lib.hid (hv.below NB)
  have hvv := hv
  obtain ⟨a, cap, rfl, hzl, hx, h⟩ := hvv
  unfold fr
  rcases hA with ⟨rfl, hno, rfl⟩ | ⟨hok, rfl, hq, rfl⟩ | ⟨hok, rfl, hg, k, y, rfl, hk, rfl⟩
  · have HK := Lib.hid (fun (vv : Value) (W : World) (V : Ports W vv ps) => check_any vv ps 3 (.inr ⟨rfl, hno⟩) W V)
    clear h hx hno hv
    go_enter Try.func20, Try.ntmps20
    go_wp2_with ((with_reducible refine (HK.out _ _ V2h.out).mono ?_); rintro e w1 ⟨rfl, g1⟩; obtain ⟨z3, p0, p1, p2, pf⟩ := N3.below g1)
    exact bodyPost_ret (v := .tuple #[zeroPort, .int .i64 3]) (by simp [zeroPort, results, Try.results20, go_sem, p0, p1, p2]) rfl ⟨rfl, by (repeat (with_reducible refine Below.setCell ?_ (by simp) _)); exact bstep NB g1⟩
  · have HK := Lib.hid (fun (vv : Value) (W : World) (V : Ports W vv ps) => check_any vv ps 0 (.inl ⟨rfl, hok⟩) W V)
    have hq2 : (decide (q < 0) = true) ∨ (decide (q < 0) = false ∧ decide ((ps.length : Int) ≤ q) = true) ∨ (decide (q < 0) = false ∧ decide ((ps.length : Int) ≤ q) = false ∧ ¬ Good3 dst src tg vl pr ty data) := by
      by_cases c1 : q < 0
      · exact .inl (decide_eq_true c1)
      · by_cases c2 : (ps.length : Int) ≤ q
        · exact .inr (.inl ⟨decide_eq_false c1, decide_eq_true c2⟩)
        · exact .inr (.inr ⟨decide_eq_false c1, decide_eq_false c2, (hq.resolve_left c1).resolve_left c2⟩)
    clear h hx hok hv hq
    rcases hq2 with q1 | ⟨q1, q2⟩ | ⟨q1, q2, hno⟩
    · go_enter Try.func20, Try.ntmps20
      go_wp2_with ((with_reducible refine (HK.out _ _ V2h.out).mono ?_); rintro e w1 ⟨rfl, g1⟩; obtain ⟨z3, p0, p1, p2, pf⟩ := N3.below g1)
      exact bodyPost_ret (v := .tuple #[zeroPort, .int .i64 1]) (by simp [zeroPort, results, Try.results20, go_sem, p0, p1, p2]) rfl ⟨rfl, by (repeat (with_reducible refine Below.setCell ?_ (by simp) _)); exact bstep NB g1⟩
    · go_enter Try.func20, Try.ntmps20
      go_wp2_with ((with_reducible refine (HK.out _ _ V2h.out).mono ?_); rintro e w1 ⟨rfl, g1⟩; obtain ⟨z3, p0, p1, p2, pf⟩ := N3.below g1)
      exact bodyPost_ret (v := .tuple #[zeroPort, .int .i64 1]) (by simp [zeroPort, results, Try.results20, go_sem, p0, p1, p2]) rfl ⟨rfl, by (repeat (with_reducible refine Below.setCell ?_ (by simp) _)); exact bstep NB g1⟩
    · have HE := Lib.hid (fun (W : World) => encodes_is dst src data tg vl pr ty false hz (iff_of_false (by decide) hno) W)
      clear hno hz
      go_enter Try.func20, Try.ntmps20
      go_wp2_with (first | ((with_reducible refine (HK.out _ _ V2h.out).mono ?_); rintro e w1 ⟨rfl, g1⟩; obtain ⟨y1, c0, c1, c2, c3, c4, c5, c6, cf⟩ := N7.below g1) | ((with_reducible refine (HE.out _).mono ?_); rintro e w2 ⟨rfl, g2⟩; obtain ⟨z3, p0, p1, p2, pf⟩ := (N3.below g1).below g2))
      exact bodyPost_ret (v := .tuple #[zeroPort, .int .i64 1]) (by simp [zeroPort, results, Try.results20, go_sem, p0, p1, p2]) rfl ⟨rfl, by (repeat (with_reducible refine Below.setCell ?_ (by simp) _)); exact bstep (bstep NB g1) g2⟩
  · have HK := Lib.hid (fun (vv : Value) (W : World) (V : Ports W vv ps) => check_any vv ps 0 (.inl ⟨rfl, hok⟩) W V)
    have HE := Lib.hid (fun (W : World) => encodes_is dst src data tg vl pr ty true hz (iff_of_true rfl hg) W)
    have hlt : k < ps.length := (List.getElem?_eq_some_iff.1 hk).1
    obtain ⟨b, o, x', rfl, hb, hxk, hxm, d0, d1, d2⟩ := Ports.at h hlt
    rw [hk] at hxk
    obtain rfl := Option.some.inj hxk
    have q1 : decide ((k : Int) < 0) = false := decide_eq_false (by omega)
    have q2 : decide ((ps.length : Int) ≤ (k : Int)) = false := decide_eq_false (by omega)
    have hlt2 : (k : Int) < (ps.length : Int) := by omega
    clear h hx hok hv hg hk hxk hxm hz
    go_enter Try.func20, Try.ntmps20
    go_wp2_with (first | ((with_reducible refine (HK.out _ _ V2h.out).mono ?_); rintro e w1 ⟨rfl, g1⟩; obtain ⟨y1, c0, c1, c2, c3, c4, c5, c6, cf⟩ := N7.below g1) | ((with_reducible refine (HE.out _).mono ?_); rintro e w2 ⟨rfl, g2⟩; obtain ⟨z3, p0, p1, p2, pf⟩ := (N3.below g1).below g2; have BB := bstep (bstep NB g1) g2; have m0 := (BB.cell (p := ⟨b, o + k * 3, none⟩) hb).trans d0; have m1 := (BB.cell (p := ⟨b, o + k * 3 + 1, none⟩) hb).trans d1; have m2 := (BB.cell (p := ⟨b, o + k * 3 + 2, none⟩) hb).trans d2))
    exact bodyPost_ret (v := .tuple #[y.val, .int .i64 0]) (by simp [Pt.val, results, Try.results20, go_sem, p0, p1, p2]) rfl ⟨rfl, by (repeat (with_reducible refine Below.setCell ?_ (by simp) _)); exact bstep (bstep NB g1) g2⟩
end Go.Proofs.Ytpninodcjglboaa
